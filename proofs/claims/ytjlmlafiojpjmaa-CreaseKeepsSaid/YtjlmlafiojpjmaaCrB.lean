/-
  Chapter 12: the state of an innings as a value, with any lists.
-/
import Derived.Test.YtjlmlafiojpjmaaCloneL
import Derived.Test.YtjlmlafiojpjmaaStr
import Derived.RegionTactic
import Derived.BigRegion
import Derived.BigQuiet
import Derived.Deep.RegionWith
set_option linter.unusedSimpArgs false
set_option linter.unusedVariables false
namespace Go.Proofs.Ytjlmlafiojpjmaa
open Go.RowKit

/-- What the layer leaves alone, besides the lists. -/
structure Rst where
  a0 : Int
  a1 : Int
  a2 : Int
  a3 : Int
  e0 : Int
  e1 : Int
  e2 : Int
  e3 : Int
  e4 : Int
  c1 : Int
  c2 : Int
  bw : Int
  ba : Int
  kp : Int
  os : Int
  r1 : Int
  r2 : Int
  en : Int
  fr : Bool
  fh : Bool
/-- The five lists of an innings, as values. -/
structure Ls where
  b : Value
  bo : Value
  be : Value
  bd : Value
  sb : Value
/-- The 28 cells of an innings. -/
def innL (r : Rst) (wk st ot : Int) (V : Ls) : List Value :=
  [(.int .i64 r.a0), (.int .i64 r.a1), (.int .i64 r.a2), (.int .i64 r.a3), (.int .i64 wk), (.int .i64 r.e0), (.int .i64 r.e1), (.int .i64 r.e2), (.int .i64 r.e3), (.int .i64 r.e4), (.int .i64 r.c1), (.int .i64 r.c2), (.int .i64 st), (.int .i64 ot), V.b, (.int .i64 r.bw), V.bo, V.be, (.bool r.fr), V.bd, (.bool r.fh), (.int .i64 r.ba), (.int .i64 r.kp), (.int .i64 r.os), V.sb, (.int .i64 r.r1), (.int .i64 r.r2), (.int .u8 r.en)]
abbrev innV (r : Rst) (wk st ot : Int) (V : Ls) : Value := .agg (innL r wk st ot V).toArray
theorem inn_info : (Try.prog.info? 32).map (·.size) = some 28 := by kernel_rfl
/-- All five are values of one cell. -/
structure Ls.One (V : Ls) : Prop where
  b : V.b.oneCell' = true
  bo : V.bo.oneCell' = true
  be : V.be.oneCell' = true
  bd : V.bd.oneCell' = true
  sb : V.sb.oneCell' = true
theorem inn_one (r : Rst) (wk st ot : Int) {V : Ls} (h : V.One) : (innL r wk st ot V).toArray.all (·.oneCell') = true := by
  obtain ⟨h1, h2, h3, h4, h5⟩ := h
  simp only [innL, List.all_toArray, List.all_cons, List.all_nil, h1, h2, h3, h4, h5]
  simp [Value.oneCell']
def nilV : Ls := ⟨.slice none 0 0, .slice none 0 0, .slice none 0 0, .slice none 0 0, .slice none 0 0⟩
def zeroR : Rst := ⟨0, 0, 0, 0, 0, 0, 0, 0, 0, 0, 0, 0, 0, 0, 0, 0, 0, 0, false, false⟩
def zeroL : List Value := innL zeroR 0 0 0 nilV
theorem zero_inn : ∀ w : World, Sem.run Try.prog (zeroValue 32) w = .ok (innV zeroR 0 0 0 nilV) w := fun _ => by kernel_rfl
theorem entry2 (w : World) (c1 c2 : List Value) (e1 e2 : TypeId) : Blk ((w.alloc (.cells c1.toArray e1)).alloc (.cells c2.toArray e2)) w.heap.size e1 c1 ∧ Blk ((w.alloc (.cells c1.toArray e1)).alloc (.cells c2.toArray e2)) (w.heap.size + 1) e2 c2 ∧ Below w.heap.size w ((w.alloc (.cells c1.toArray e1)).alloc (.cells c2.toArray e2)) :=
  ⟨(Blk.new w e1 c1).to (cur_new _ _), two_new w _ _, cur_two w _ _⟩

def stC (bs : List Int) : List Value := bs.map (Value.int .u8)
theorem stC_len (bs : List Int) : (stC bs).length = bs.length := by simp [stC]
theorem stC_at {bs : List Int} {k : Nat} {x : Int} (h : bs[k]? = some x) : (stC bs)[k]? = some (.int .u8 x) := by simp [stC, h]
theorem stC_set (bs : List Int) (k : Nat) (x : Int) : (stC bs).set k (.int .u8 x) = stC (bs.set k x) := by simp [stC, List.map_set]
theorem stC_one (bs : List Int) : ∀ u ∈ stC bs, u.oneCell' = true := by
  intro u hu
  obtain ⟨x, _, rfl⟩ := List.mem_map.1 hu
  rfl
def inC (bs : List Int) : List Value := bs.map (Value.int .i64)
theorem inC_len (bs : List Int) : (inC bs).length = bs.length := by simp [inC]
theorem inC_at {bs : List Int} {k : Nat} {x : Int} (h : bs[k]? = some x) : (inC bs)[k]? = some (.int .i64 x) := by simp [inC, h]
theorem inC_one (bs : List Int) : ∀ u ∈ inC bs, u.oneCell' = true := by
  intro u hu
  obtain ⟨x, _, rfl⟩ := List.mem_map.1 hu
  rfl
def boC (bs : List Bool) : List Value := bs.map Value.bool
theorem boC_len (bs : List Bool) : (boC bs).length = bs.length := by simp [boC]
theorem boC_at {bs : List Bool} {k : Nat} {x : Bool} (h : bs[k]? = some x) : (boC bs)[k]? = some (.bool x) := by simp [boC, h]
theorem boC_one (bs : List Bool) : ∀ u ∈ boC bs, u.oneCell' = true := by
  intro u hu
  obtain ⟨x, _, rfl⟩ := List.mem_map.1 hu
  rfl

/-- The state of an innings. -/
structure Inn where
  r : Rst
  wk : Int
  st : Int
  ot : Int
  b : List Int
  bo : List Int
  be : List Int
  bd : List Int
  sb : List Bool
abbrev Inn.val (I : Inn) (V : Ls) : Value := innV I.r I.wk I.st I.ot V
/-- The lists are short. -/
structure Inn.Few (I : Inn) : Prop where
  b : I.b.length ≤ 1000
  bo : I.bo.length ≤ 1000
  be : I.be.length ≤ 1000
  bd : I.bd.length ≤ 1000
  sb : I.sb.length ≤ 1000
/-- The lists V read as those of I. -/
structure InnR (w : World) (V : Ls) (I : Inn) : Prop where
  b : Lst w V.b (stC I.b)
  bo : Lst w V.bo (inC I.bo)
  be : Lst w V.be (inC I.be)
  bd : Lst w V.bd (inC I.bd)
  sb : Lst w V.sb (boC I.sb)
theorem Lst.one {w : World} {v : Value} {xs : List Value} (h : Lst w v xs) : v.oneCell' = true := by
  rcases h with ⟨rfl, _⟩ | ⟨b, off, c, rfl, _⟩ | ⟨a, c, rfl, _⟩ <;> rfl
theorem Lst.form {w : World} {v : Value} {xs : List Value} (h : Lst w v xs) : ∃ A c, v = .slice A xs.length c ∧ xs.length ≤ c := by
  rcases h with ⟨rfl, rfl⟩ | ⟨b, off, c, rfl, hc, _⟩ | ⟨a, c, rfl, rfl⟩
  · exact ⟨_, _, rfl, by simp⟩
  · exact ⟨_, _, rfl, hc⟩
  · exact ⟨_, _, rfl, by simp⟩
theorem InnR.one {w : World} {V : Ls} {I : Inn} (h : InnR w V I) : V.One := ⟨h.b.one, h.bo.one, h.be.one, h.bd.one, h.sb.one⟩
theorem InnR.to {w w' : World} {V : Ls} {I : Inn} (h : InnR w V I) (hb : Below w.heap.size w w') : InnR w' V I := ⟨h.b.to hb, h.bo.to hb, h.be.to hb, h.bd.to hb, h.sb.to hb⟩
/-- The lists V are the call's own and hold those of I; nothing else lies in the batters' row. -/
structure InnO (w : World) (base : Nat) (V : Ls) (I : Inn) : Prop where
  b : w.ownsRow base 50 1 V.b (stC I.b).length (stC I.b)
  bo : w.ownsRow base 3 1 V.bo (inC I.bo).length (inC I.bo)
  be : w.ownsRow base 3 1 V.be (inC I.be).length (inC I.be)
  bd : w.ownsRow base 3 1 V.bd (inC I.bd).length (inC I.bd)
  sb : w.ownsRow base 4 1 V.sb (boC I.sb).length (boC I.sb)
  ne : ∀ k, V.b.ownBlock = some k → V.bo.ownBlock ≠ some k ∧ V.be.ownBlock ≠ some k ∧ V.bd.ownBlock ≠ some k ∧ V.sb.ownBlock ≠ some k
/-- None of the lists lies in block g. -/
structure Ls.Away (V : Ls) (g : Nat) : Prop where
  b : ∀ k, V.b.ownBlock = some k → k ≠ g
  bo : ∀ k, V.bo.ownBlock = some k → k ≠ g
  be : ∀ k, V.be.ownBlock = some k → k ≠ g
  bd : ∀ k, V.bd.ownBlock = some k → k ≠ g
  sb : ∀ k, V.sb.ownBlock = some k → k ≠ g
section
variable {w w' : World} {base base' g : Nat} {V : Ls} {I : Inn}
theorem InnO.rd (h : InnO w base V I) : InnR w V I := ⟨Lst.own h.b, Lst.own h.bo, Lst.own h.be, Lst.own h.bd, Lst.own h.sb⟩
theorem InnO.to (h : InnO w base V I) (hb : Below w.heap.size w w') : InnO w' base V I :=
  ⟨own_below h.b hb (Nat.le_refl _), own_below h.bo hb (Nat.le_refl _), own_below h.be hb (Nat.le_refl _), own_below h.bd hb (Nat.le_refl _), own_below h.sb hb (Nat.le_refl _), h.ne⟩
theorem InnO.mono (h : InnO w base V I) (hb : base' ≤ base) : InnO w base' V I := ⟨own_mono h.b hb, own_mono h.bo hb, own_mono h.be hb, own_mono h.bd hb, own_mono h.sb hb, h.ne⟩
theorem InnO.other (h : InnO w base V I) (ha : V.Away g) (j : Nat) (u : Value) : InnO (w.setCell ⟨g, j, none⟩ u) base V I :=
  ⟨own_other h.b ha.b j u, own_other h.bo ha.bo j u, own_other h.be ha.be j u, own_other h.bd ha.bd j u, own_other h.sb ha.sb j u, h.ne⟩
theorem InnO.row (h : InnO w base V I) (ha : V.Away g) (cs : Array Value) : InnO (w.setRow g cs) base V I :=
  ⟨own_row h.b ha.b cs, own_row h.bo ha.bo cs, own_row h.be ha.be cs, own_row h.bd ha.bd cs, own_row h.sb ha.sb cs, h.ne⟩
theorem InnO.away (h : InnO w base V I) (hg : g < base ∨ w.heap.size ≤ g) : V.Away g :=
  ⟨fun k hk => by have := own_range h.b k hk; omega, fun k hk => by have := own_range h.bo k hk; omega, fun k hk => by have := own_range h.be k hk; omega, fun k hk => by have := own_range h.bd k hk; omega, fun k hk => by have := own_range h.sb k hk; omega⟩
theorem InnO.setB (h : InnO w base V I) {b c : Nat} (hV : V.b = .slice (some ⟨b, 0, none⟩) I.b.length c) (P : Nat) (x : Int) : InnO (w.setCell ⟨b, P, none⟩ (.int .u8 x)) base V { I with b := I.b.set P x } := by
  have hk : V.b.ownBlock = some b := by rw [hV]; rfl
  have hn := h.ne b hk
  refine ⟨?_, own_other h.bo (fun k e => by rintro rfl; exact hn.1 e) _ _, own_other h.be (fun k e => by rintro rfl; exact hn.2.1 e) _ _, own_other h.bd (fun k e => by rintro rfl; exact hn.2.2.1 e) _ _, own_other h.sb (fun k e => by rintro rfl; exact hn.2.2.2 e) _ _, h.ne⟩
  have h1 := h.b
  rw [hV, stC_len] at h1
  rw [hV]
  have h2 := (h1.stored P (.int .u8 x)).1
  simp only [stC_len, List.length_set] at h2 ⊢
  rw [← stC_set]
  exact h2
theorem InnO.blk (h : InnO w base V I) (hn : 0 < I.b.length) : ∃ b c, V.b = .slice (some ⟨b, 0, none⟩) I.b.length c ∧ I.b.length ≤ c ∧ base ≤ b ∧ b < w.heap.size := by
  have h1 := h.b
  have hr := own_range h1
  obtain ⟨A, c, hf⟩ := own_form h1
  rcases h1.2 with ⟨_, hn0⟩ | ⟨g', cap, cur, h2, _⟩
  · rw [stC_len] at hn0; omega
  · have h3 := h.b
    rw [h2] at hf
    injection hf with hA hl hc
    rw [h2, hl] at h3
    have hc := own_cap h3
    rw [stC_len] at hc hl
    have := hr g' (by rw [h2]; rfl)
    exact ⟨g', cap, by rw [h2, stC_len], hc, this.1, this.2⟩
end
end Go.Proofs.Ytjlmlafiojpjmaa
