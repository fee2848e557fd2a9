/-
  Chapter 3's lines in memory: a row of fields of its own for each line, and a row of the lines.
-/
import Derived.Test.YtgkjcapoddjkhaaGreatDoorFldP
import Derived.Test.YtgkjcapoddjkhaaGreatDoorRows
import Derived.Test.YtgkjcapoddjkhaaGreatDoorNotS
import Derived.Test.YtgkjcapoddjkhaaGreatDoorApp
set_option linter.unusedSimpArgs false
set_option linter.unusedVariables false
namespace Go.Proofs.YtgkjcapoddjkhaaGreatDoor
open Go.RowKit
set_option maxRecDepth 100000
set_option maxHeartbeats 1000000
def flE (f : Fld) : List Value := [.string (sA f.text), .int .i64 f.col, .bool f.quoted]
theorem flE_len (f : Fld) : (flE f).length = 3 := rfl
theorem Tryz.infoFl : (Tryz.prog.info? 101).map (fun i => (i.zero, i.size, i.bytes)) = some (some (.agg #[.string ByteArray.empty, .int .i64 0, .bool false]), 3, 32) := by kernel_rfl
theorem Tryz.flElem : ElemOf Tryz.prog flE 3 32 95 101 := .mk' Tryz.infoFl rfl Tryz.underlying95 (by decide) flE_len (fun x u hu => by simp [flE] at hu; rcases hu with rfl | rfl | rfl <;> rfl)
def dgE (d : Dg) : List Value := [.int .i64 d.line, .int .i64 d.col, .int .i64 d.code]
theorem dgE_len (d : Dg) : (dgE d).length = 3 := rfl
theorem Tryz.infoDg : (Tryz.prog.info? 50).map (fun i => (i.zero, i.size, i.bytes)) = some (some (.agg #[.int .i64 0, .int .i64 0, .int .i64 0]), 3, 24) := by kernel_rfl
theorem Tryz.dgElem : ElemOf Tryz.prog dgE 3 24 43 50 := .mk' Tryz.infoDg rfl Tryz.underlying43 (by decide) dgE_len (fun x u hu => by simp [dgE] at hu; rcases hu with rfl | rfl | rfl <;> rfl)
/-- A line in memory: its number, its row of fields' block and room, the fields. -/
structure Lr where
  num : Int
  g : Nat
  c : Nat
  fs : List Fld
abbrev lrV (r : Lr) : Value := .slice (some ⟨r.g, 0, none⟩) r.fs.length r.c
def lrE (r : Lr) : List Value := [.int .i64 r.num, lrV r]
def Lr.lin (r : Lr) : Lin := ⟨r.num, r.fs⟩
theorem lrE_len (r : Lr) : (lrE r).length = 2 := rfl
theorem Tryz.infoLr : (Tryz.prog.info? 97).map (fun i => (i.zero, i.size, i.bytes)) = some (some (.agg #[.int .i64 0, .slice none 0 0]), 2, 32) := by kernel_rfl
theorem Tryz.lrElem : ElemOf Tryz.prog lrE 2 32 92 97 := .mk' Tryz.infoLr rfl Tryz.underlying92 (by decide) lrE_len (fun x u hu => by simp [lrE] at hu; rcases hu with rfl | rfl <;> rfl)
theorem own_fl {w : World} {base e : Nat} {v : Value} {l : List Fld} (h : OwnL flE 3 e base w v l) (hl : l ≠ []) : ∃ g c, v = .slice (some ⟨g, 0, none⟩) l.length c := by
  rcases h.2 with ⟨_, hn⟩ | ⟨g, cap, cur, rfl, _⟩
  · exact absurd (List.eq_nil_of_length_eq_zero hn) hl
  · exact ⟨g, cap, rfl⟩
theorem own_blk {α : Type} {enc : α → List Value} {size : Nat} {w : World} {base e g n c : Nat} {l : List α} (h : OwnL enc size e base w (.slice (some ⟨g, 0, none⟩) n c) l) : base ≤ g ∧ g < w.heap.size := by
  rcases h.2 with ⟨hv, _⟩ | ⟨g', cap, cur, hv, hb, hh, _⟩
  · cases hv
  · injection hv with h1
    injection h1 with h1
    injection h1 with h1
    subst h1
    exact ⟨hb, (Array.getElem?_eq_some_iff.1 hh).1⟩
theorem own_same {α : Type} {enc : α → List Value} {size : Nat} {w w' : World} {base e g n c : Nat} {l : List α} (h : OwnL enc size e base w (.slice (some ⟨g, 0, none⟩) n c) l) (hk : w'.heap[g]? = w.heap[g]?) : OwnL enc size e base w' (.slice (some ⟨g, 0, none⟩) n c) l := by
  refine ⟨h.1, ?_⟩
  rcases h.2 with h2 | ⟨g', cap, cur, hv, hb, hh, r⟩
  · exact .inl h2
  · injection hv with h1 h2 h3
    injection h1 with h1
    injection h1 with h1
    subst h1 h3
    exact .inr ⟨g, c, cur, by rw [h2], hb, by rw [hk]; exact hh, r⟩
theorem own_block_lt {α : Type} {enc : α → List Value} {size : Nat} {w : World} {base e : Nat} {v : Value} {l : List α} (h : OwnL enc size e base w v l) {g : Nat} (hg : v.ownBlock = some g) : base ≤ g ∧ g < w.heap.size := by
  rcases h.2 with ⟨rfl, _⟩ | ⟨g', cap, cur, rfl, hb, hh, _⟩
  · cases hg
  · injection hg with hg
    subst hg
    exact ⟨hb, (Array.getElem?_eq_some_iff.1 hh).1⟩
structure TabL (w : World) (base : Nat) (v : Value) (rs : List Lr) : Prop where
  own : OwnL lrE 2 97 base w v rs
  rows : ∀ r ∈ rs, OwnL flE 3 101 base w (lrV r) r.fs
  far : ∀ r ∈ rs, v.ownBlock ≠ some r.g
theorem TabL.nil (w : World) (base : Nat) : TabL w base (.slice none 0 0) [] := ⟨World.ownsRow_nil _ _ _ _, by simp, by simp⟩
theorem TabL.below {w w' : World} {base B : Nat} {v : Value} {rs : List Lr} (h : TabL w base v rs) (hb : Below B w w') (hB : w.heap.size ≤ B) : TabL w' base v rs :=
  ⟨own_below h.own hb hB, fun r hr => own_below (h.rows r hr) hb hB, h.far⟩
theorem TabL.to {w w' : World} {base : Nat} {v : Value} {rs : List Lr} (h : TabL w base v rs) (hb : Below w.heap.size w w') : TabL w' base v rs := h.below hb (Nat.le_refl _)
theorem TabL.mono {w : World} {base base' : Nat} {v : Value} {rs : List Lr} (h : TabL w base v rs) (hb : base' ≤ base) : TabL w base' v rs :=
  ⟨own_mono h.own hb, fun r hr => own_mono (h.rows r hr) hb, h.far⟩
theorem TabL.form {w : World} {base : Nat} {v : Value} {rs : List Lr} (h : TabL w base v rs) : ∃ A c, v = .slice A rs.length c := own_form h.own
theorem TabL.keep {w w' : World} {base : Nat} {v : Value} {rs : List Lr} (h : TabL w base v rs) (hb : Below base w w') (hk : ∀ g, base ≤ g → g < w.heap.size → v.ownBlock = some g ∨ (∃ r ∈ rs, r.g = g) → w'.heap[g]? = w.heap[g]?) : TabL w' base v rs := by
  refine ⟨?_, fun r hr => ?_, h.far⟩
  · obtain ⟨h1, h2⟩ := h.own
    refine ⟨h1, ?_⟩
    rcases h2 with h2 | ⟨g', cap, cur, hv, hb, hh, r⟩
    · exact .inl h2
    · exact .inr ⟨g', cap, cur, hv, hb, by rw [hk g' hb (Array.getElem?_eq_some_iff.1 hh).1 (.inl (by rw [hv]; rfl))]; exact hh, r⟩
  · have := own_blk (h.rows r hr)
    exact own_same (h.rows r hr) (hk _ this.1 this.2 (.inr ⟨r, hr, rfl⟩))
theorem TabL.app {w w0 w1 : World} {base : Nat} {A : Option Addr} {c g cap : Nat} {rs : List Lr} {r : Lr} (h : TabL w base (.slice A rs.length c) rs) (hb : Below w.heap.size w w0) (hr : OwnL flE 3 101 base w0 (lrV r) r.fs) (hg : w.heap.size ≤ r.g)
    (ha : App w0 w1 base 97 2 (.slice A rs.length c) g cap rs.length 1 (rs.flatMap lrE) (lrE r)) : TabL w1 base (.slice (some ⟨g, 0, none⟩) (rs.length + 1) cap) (rs ++ [r]) := by
  have h0 := h.to hb
  have hbs := hb.size
  have hlt : ∀ x ∈ rs, x.g < w.heap.size := fun x hx => (own_blk (h.rows x hx)).2
  have hrl := (own_blk hr).2
  have hvl : ∀ b, (Value.slice A rs.length c).ownBlock = some b → b < w.heap.size := fun b e => (own_block_lt h.own e).2
  refine ⟨ha.one rfl, fun x hx => ?_, fun x hx => ?_⟩
  · rcases List.mem_append.1 hx with hx | hx
    · exact own_same (h0.rows x hx) (ha.grown.block x.g (by have := hlt x hx; omega) (fun e => h.far x hx e.symm))
    · simp at hx
      subst hx
      exact own_same hr (ha.grown.block _ hrl (fun e => by have := hvl _ e.symm; omega))
  · intro e
    have e : g = x.g := by injection e
    rcases ha.at_ with h1 | h1
    · rw [e] at h1
      rcases List.mem_append.1 hx with hx | hx
      · exact h.far x hx h1
      · simp at hx; subst hx; have := hvl _ h1; omega
    · rcases List.mem_append.1 hx with hx | hx
      · have := hlt x hx; omega
      · simp at hx; subst hx; omega
end Go.Proofs.YtgkjcapoddjkhaaGreatDoor
