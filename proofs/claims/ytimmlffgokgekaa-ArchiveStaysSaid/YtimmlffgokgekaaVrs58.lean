/-
  Chapter 58: the versions of an archive in memory; New, Head, has, check, Base, Get.
-/
import Derived.Test.YtimmlffgokgekaaHas58
set_option linter.unusedSimpArgs false
set_option linter.unusedVariables false
namespace Go.Proofs.Ytimmlffgokgekaa
open Go.RowKit
set_option maxRecDepth 100000
set_option maxHeartbeats 4000000
/-- Nothing that was there is changed but the named blocks. -/
structure Far (bs : List Nat) (w w' : World) : Prop where
  os : w'.os = w.os
  tape : w'.tape = w.tape
  output : w'.output = w.output
  size : w.heap.size ≤ w'.heap.size
  block : ∀ b, b < w.heap.size → b ∉ bs → w'.heap[b]? = w.heap[b]?
theorem Far.refl (bs : List Nat) (w : World) : Far bs w w := ⟨rfl, rfl, rfl, Nat.le_refl _, fun _ _ _ => rfl⟩
theorem Far.of {bs : List Nat} {w w' : World} (h : Below w.heap.size w w') : Far bs w w' := ⟨h.os, h.tape, h.output, h.size, fun b hb _ => h.block b hb⟩
theorem Far.trans {bs cs : List Nat} {a b c : World} (h : Far bs a b) (k : Far cs b c) (hc : ∀ x ∈ cs, x ∈ bs ∨ a.heap.size ≤ x) : Far bs a c :=
  ⟨k.os.trans h.os, k.tape.trans h.tape, k.output.trans h.output, Nat.le_trans h.size k.size, fun i hi hn => (k.block i (Nat.lt_of_lt_of_le hi h.size) (fun hx => by rcases hc i hx with h1 | h1; exact hn h1; omega)).trans (h.block i hi hn)⟩
theorem Far.below {bs : List Nat} {B : Nat} {w w' : World} (h : Far bs w w') (hB : B ≤ w.heap.size) (hb : ∀ x ∈ bs, B ≤ x) : Below B w w' :=
  ⟨h.os, h.tape, h.output, h.size, fun i hi => h.block i (by omega) (fun hx => by have := hb i hx; omega)⟩
theorem Far.row {w : World} (g : Nat) (cs : Array Value) : Far [g] w (w.setRow g cs) := ⟨rfl, rfl, rfl, by simp [World.setRow], fun b hb hn => heap_row_other w g b cs (by simpa using hn)⟩
theorem Far.grown {bs : List Nat} {w w' : World} {r : Option Nat} (h : w.grownBy w' r) (hr : ∀ b, r = some b → b ∈ bs) : Far bs w w' :=
  ⟨h.os, h.tape, h.output, h.size, fun b hb hn => h.block b hb (fun e => hn (hr b e.symm))⟩
theorem Blk.far {bs : List Nat} {w w' : World} {b e : Nat} {xs : List Value} (h : Blk w b e xs) (hf : Far bs w w') (hn : b ∉ bs) : Blk w' b e xs := by
  have hl := h.lt
  unfold Blk at *
  rw [hf.block b hl hn]
  exact h
theorem own_far {bs : List Nat} {w w' : World} {base e size n : Nat} {v : Value} {xs : List Value} (h : w.ownsRow base e size v n xs) (hf : Far bs w w') (hne : ∀ b, v.ownBlock = some b → b ∉ bs) : w'.ownsRow base e size v n xs := by
  refine ⟨h.1, ?_⟩
  rcases h.2 with h2 | ⟨g, cap, cur, hv, hb, hh, hr⟩
  · exact .inl h2
  · exact .inr ⟨g, cap, cur, hv, hb, by rw [hf.block g (Array.getElem?_eq_some_iff.1 hh).1 (hne g (by rw [hv]; rfl))]; exact hh, hr⟩
theorem rd_far {α : Type} {enc : α → List Value} {size : Nat} {bs : List Nat} {w w' : World} {A : Option Addr} {l : List α} (h : Rd enc size w w.heap.size A l) (hf : Far bs w w') (hn : ∀ b o, A = some ⟨b, o, none⟩ → b ∉ bs) : Rd enc size w' w'.heap.size A l := by
  intro k x hx
  obtain ⟨b, off, e, hl, hc⟩ := h k x hx
  exact ⟨b, off, e, Nat.lt_of_lt_of_le hl hf.size, fun j u hu => (World.cell?_of_block (a := ⟨b, off + k * size + j, none⟩) (hf.block b hl (hn b off e))).trans (hc j u hu)⟩
theorem Far.cell {w : World} (g o : Nat) (u : Value) : Far [g] w (w.setCell ⟨g, o, none⟩ u) := by
  have h := below_set (B := 0) (Below.refl 0 w) (Nat.zero_le g) o u
  exact ⟨h.os, h.tape, h.output, h.size, fun b hb hn => heap_setCell_other w ⟨g, o, none⟩ b u (by simpa using hn)⟩
/-- One more version, and the archive's own cell set. -/
theorem setc {w : World} {bA e : Nat} {x : Value} (h : Blk w bA e [x]) (u : Value) : Blk (w.setCell ⟨bA, 0, none⟩ u) bA e [u] := h.set 0 u
structure Vr where
  base : Int
  a : Option Addr
  c : Nat
  l : List Ent
def verE (v : Vr) : List Value := [.int .i64 v.base, .slice v.a v.l.length v.c]
theorem verE_len (v : Vr) : (verE v).length = 2 := rfl
theorem Try.infoVer : (Try.prog.info? 95).map (fun i => (i.zero, i.size, i.bytes)) = some (some (.agg #[.int .i64 0, .slice none 0 0]), 2, 32) := by kernel_rfl
theorem Try.verElem : ElemOf Try.prog verE 2 32 90 95 := .mk' Try.infoVer rfl Try.underlying90 (by decide) verE_len (fun x u hu => by simp [verE] at hu; rcases hu with rfl | rfl <;> rfl)
/-- The archive at block bA: its versions lie in a row of the call's own; the files lie elsewhere. -/
structure ArcS (B0 bA : Nat) (V : Option Addr) (c : Nat) (vs : List Vr) (w : World) : Prop where
  blk : Blk w bA 92 [.slice V vs.length c]
  own : OwnL verE 2 95 B0 w (.slice V vs.length c) vs
  ge : B0 ≤ bA
  ne : ∀ b, (Value.slice V vs.length c).ownBlock = some b → b ≠ bA
  rd : ∀ v ∈ vs, Rd entE 21 w w.heap.size v.a v.l
  away : ∀ v ∈ vs, ∀ b o, v.a = some ⟨b, o, none⟩ → b ≠ bA ∧ (Value.slice V vs.length c).ownBlock ≠ some b
  lt : ∀ v ∈ vs, ∀ b o, v.a = some ⟨b, o, none⟩ → b < w.heap.size
theorem ArcS.to {B0 bA : Nat} {V : Option Addr} {c : Nat} {vs : List Vr} {w w' : World} (h : ArcS B0 bA V c vs w) (hb : Below w.heap.size w w') : ArcS B0 bA V c vs w' :=
  ⟨h.blk.to hb, own_below h.own hb (Nat.le_refl _), h.ge, h.ne, fun v hv => (h.rd v hv).to hb, h.away, fun v hv b o e => Nat.lt_of_lt_of_le (h.lt v hv b o e) hb.size⟩
theorem ArcS.far {B0 bA : Nat} {V : Option Addr} {c : Nat} {vs : List Vr} {bs : List Nat} {w w' : World} (h : ArcS B0 bA V c vs w) (hf : Far bs w w') (h1 : bA ∉ bs) (h2 : ∀ b, (Value.slice V vs.length c).ownBlock = some b → b ∉ bs) (h3 : ∀ v ∈ vs, ∀ b o, v.a = some ⟨b, o, none⟩ → b ∉ bs) : ArcS B0 bA V c vs w' :=
  ⟨h.blk.far hf h1, own_far h.own hf h2, h.ge, h.ne, fun v hv => rd_far (h.rd v hv) hf (h3 v hv), h.away, fun v hv b o e => Nat.lt_of_lt_of_le (h.lt v hv b o e) hf.size⟩
theorem ArcS.ver {B0 bA : Nat} {V : Option Addr} {c : Nat} {vs : List Vr} {w : World} (h : ArcS B0 bA V c vs w) {k : Nat} {v : Vr} (hk : vs[k]? = some v) : ∃ g, V = some ⟨g, 0, none⟩ ∧ g < w.heap.size ∧ w.cell? ⟨g, k * 2, none⟩ = some (.int .i64 v.base) ∧ w.cell? ⟨g, k * 2 + 1, none⟩ = some (.slice v.a v.l.length v.c) := by
  rcases h.own.2 with ⟨hv, hn⟩ | ⟨g, cap, cur, hv, _⟩
  · rw [List.eq_nil_of_length_eq_zero hn] at hk; simp at hk
  · injection hv with h1 _ h3
    subst h1
    have hc := World.ownsRow.cells (g := g) h.own rfl
    have h0 := hc (k * 2 + 0) (.int .i64 v.base) (flat_at verE_len vs k v hk 0 _ rfl)
    have h1 := hc (k * 2 + 1) (.slice v.a v.l.length v.c) (flat_at verE_len vs k v hk 1 _ rfl)
    refine ⟨g, rfl, (own_range h.own g rfl).2, by simpa [Addr.add_lit] using h0, by simpa [Addr.add_lit] using h1⟩
theorem new_p (w : World) : Calls Try.prog 24 #[] w fun e w' => e = .returned (.pointer (some ⟨w.heap.size, 0, none⟩)) ∧ ArcS w.heap.size w.heap.size none 0 [] w' ∧ Below w.heap.size w w' := by
  have HB := Lib.hid (cur_new w (.cells #[.slice none 0 0] 92))
  have HK := Lib.hid (Blk.new w 92 [.slice none 0 0])
  go_enter Try.func24, Try.ntmps24
  go_wp2_with (fail)
  go_ret
  exact ⟨rfl, ⟨HK.out, World.ownsRow_nil _ _ _ _, Nat.le_refl _, (fun b h => by cases h), (fun v hv => by cases hv), (fun v hv => by cases hv), (fun v hv => by cases hv)⟩, HB.out⟩
theorem head_p (w : World) (bA : Nat) (V : Option Addr) (n c : Nat) (hA : Blk w bA 92 [.slice V n c]) : Calls Try.prog 27 #[.pointer (some ⟨bA, 0, none⟩)] w fun e w' => e = .returned (.int .i64 n) ∧ Below w.heap.size w w' := by
  have a0 : w.cell? ⟨bA, 0, none⟩ = some (.slice V n c) := hA.cell 0
  have hl := hA.lt
  clear hA
  go_enter Try.func27, Try.ntmps27
  go_wp2_with (fail)
  go_ret
  exact ⟨rfl, Below.refl _ _⟩
theorem head_n (w : World) : Calls Try.prog 27 #[.pointer none] w fun e w' => e = .returned (.int .i64 0) ∧ Below w.heap.size w w' := by
  go_enter Try.func27, Try.ntmps27
  go_wp2_with (fail)
  go_ret
  exact ⟨rfl, Below.refl _ _⟩
theorem ArcS.add {B0 bA : Nat} {V : Option Addr} {c : Nat} {vs : List Vr} {u u1 w8 : World} {ver : Vr} {g cap : Nat} (h : ArcS B0 bA V c vs u) (hu1 : Below u.heap.size u u1)
    (hrd : Rd entE 21 u u.heap.size ver.a ver.l) (haw : ∀ b o, ver.a = some ⟨b, o, none⟩ → b < u.heap.size ∧ b ≠ bA ∧ (Value.slice V vs.length c).ownBlock ≠ some b)
    (ha : App u1 w8 B0 95 2 (.slice V vs.length c) g cap vs.length 1 (vs.flatMap verE) (verE ver)) :
    ArcS B0 bA (some ⟨g, 0, none⟩) cap (vs ++ [ver]) (w8.setCell ⟨bA, 0, none⟩ (.slice (some ⟨g, 0, none⟩) (vs.length + 1) cap)) ∧ Far (bA :: (Value.slice V vs.length c).ownBlock.toList) u (w8.setCell ⟨bA, 0, none⟩ (.slice (some ⟨g, 0, none⟩) (vs.length + 1) cap)) ∧ ((Value.slice V vs.length c).ownBlock = some g ∨ u.heap.size ≤ g) := by
  have h1 := h.to hu1
  have hlA := h.blk.lt
  have hn1 : (Value.slice V vs.length c).ownBlock ≠ some bA := fun e => h.ne bA e rfl
  have hgA : g ≠ bA := by
    rcases ha.at_ with e | e
    · exact h.ne g e
    · have := hu1.size; omega
  have hs1 := hu1.size
  have hs8 := ha.grown.size
  have hfar8 : Far (Value.slice V vs.length c).ownBlock.toList u1 w8 := Far.grown ha.grown (fun b hb => by rw [hb]; simp)
  have hbA8 : Blk w8 bA 92 [.slice V vs.length c] := h1.blk.far hfar8 (fun hx => by
    cases ho : (Value.slice V vs.length c).ownBlock with
    | none => rw [ho] at hx; simp at hx
    | some y => rw [ho] at hx; simp at hx; exact hn1 (by rw [ho, hx]))
  have hF9 := Far.cell (w := w8) bA 0 (.slice (some ⟨g, 0, none⟩) (vs.length + 1) cap)
  have hfar : Far (bA :: (Value.slice V vs.length c).ownBlock.toList) u (w8.setCell ⟨bA, 0, none⟩ (.slice (some ⟨g, 0, none⟩) (vs.length + 1) cap)) :=
    ((Far.of (bs := bA :: (Value.slice V vs.length c).ownBlock.toList) hu1).trans hfar8 (fun x hx => Or.inl (by simp at hx ⊢; exact Or.inr hx))).trans hF9 (fun x hx => Or.inl (by simp at hx ⊢; exact Or.inl hx))
  have hnot : ∀ b, b ≠ bA → (Value.slice V vs.length c).ownBlock ≠ some b → b ∉ (bA :: (Value.slice V vs.length c).ownBlock.toList) := by
    intro b hb1 hb2 hx
    rcases List.mem_cons.1 hx with e | e
    · exact hb1 e
    · cases ho : (Value.slice V vs.length c).ownBlock with
      | none => rw [ho] at e; simp at e
      | some y => rw [ho] at e; simp at e; exact hb2 (by rw [ho, e])
  have hall : ∀ v ∈ vs ++ [ver], Rd entE 21 u u.heap.size v.a v.l ∧ ∀ b o, v.a = some ⟨b, o, none⟩ → b < u.heap.size ∧ b ≠ bA ∧ (Value.slice V vs.length c).ownBlock ≠ some b := by
    intro v hv
    rcases List.mem_append.1 hv with hv | hv
    · exact ⟨h.rd v hv, fun b o e => ⟨h.lt v hv b o e, h.away v hv b o e⟩⟩
    · simp at hv; subst hv; exact ⟨hrd, haw⟩
  refine ⟨⟨?_, ?_, h.ge, ?_, ?_, ?_, ?_⟩, hfar, ?_⟩
  · rw [List.length_append]; exact setc hbA8 _
  · have ho : OwnL verE 2 95 B0 w8 (.slice (some ⟨g, 0, none⟩) (vs.length + 1) cap) (vs ++ [ver]) := ha.one rfl
    have := own_far ho hF9 (fun b hb => by have hb' : g = b := Option.some.inj (show some g = some b from hb); simp; omega)
    rw [List.length_append]
    exact this
  · intro b hb
    have hb' : g = b := Option.some.inj (show some g = some b from hb)
    omega
  · intro v hv
    exact rd_far (hall v hv).1 hfar (fun b o e => hnot b ((hall v hv).2 b o e).2.1 ((hall v hv).2 b o e).2.2)
  · intro v hv b o e
    obtain ⟨a1, a2, a3⟩ := (hall v hv).2 b o e
    refine ⟨a2, fun hx => ?_⟩
    have hx : g = b := Option.some.inj (show some g = some b from hx)
    rcases ha.at_ with e1 | e1
    · exact a3 (by rw [e1, hx])
    · omega
  · intro v hv b o e
    exact Nat.lt_of_lt_of_le ((hall v hv).2 b o e).1 hfar.size
  · rcases ha.at_ with e1 | e1
    · exact Or.inl e1
    · exact Or.inr (by omega)
def hasB (n : Nat) (k : Int) : Bool := decide (1 ≤ k ∧ k ≤ (n : Int))
theorem has_v (w : World) (bA : Nat) (V : Option Addr) (n c : Nat) (k : Int) (hA : Blk w bA 92 [.slice V n c]) : Calls Try.prog 49 #[.pointer (some ⟨bA, 0, none⟩), .int .i64 k] w fun e w' => e = .returned (.bool (hasB n k)) ∧ Below w.heap.size w w' := by
  have HA := Lib.hid hA
  clear hA
  by_cases h1 : 1 ≤ k
  · have hd : hasB n k = decide (k ≤ (n : Int)) := by unfold hasB; simp [h1]
    have HD := Lib.hid hd
    clear hd
    go_enter Try.func49, Try.ntmps49
    go_wp2_with (fail)
    refine (head_p w bA V n c HA.out).mono ?_
    rintro e w1 ⟨rfl, hb1⟩
    have HB1 := Lib.hid hb1
    clear hb1
    go_wp2_with (fail)
    go_ret
    rw [HD.out]
    exact ⟨rfl, HB1.out⟩
  · have hd : hasB n k = false := by unfold hasB; simp; omega
    have HD := Lib.hid hd
    clear hd
    go_enter Try.func49, Try.ntmps49
    go_wp2_with (fail)
    go_ret
    rw [HD.out]
    exact ⟨rfl, Below.refl _ _⟩
def chkV (n : Nat) (k : Int) : Int := if hasB n k = true then 0 else 6
theorem check_v (w : World) (bA : Nat) (V : Option Addr) (n c : Nat) (k : Int) (hA : Blk w bA 92 [.slice V n c]) : Calls Try.prog 50 #[.pointer (some ⟨bA, 0, none⟩), .int .i64 k] w fun e w' => e = .returned (.int .i64 (chkV n k)) ∧ Below w.heap.size w w' := by
  have HA := Lib.hid hA
  clear hA
  go_enter Try.func50, Try.ntmps50
  go_wp2_with (fail)
  refine (has_v w bA V n c k HA.out).mono ?_
  rintro e w1 ⟨rfl, hb1⟩
  have HB1 := Lib.hid hb1
  clear hb1
  obtain ⟨v, hv⟩ : ∃ v, hasB n k = v := ⟨_, rfl⟩
  have HV := Lib.hid (show chkV n k = if v = true then 0 else 6 by unfold chkV; rw [hv])
  rw [hv]
  clear hv
  cases v
  · go_wp2_with (fail)
    go_ret
    rw [HV.out]
    exact ⟨rfl, HB1.out⟩
  · go_wp2_with (fail)
    go_ret
    rw [HV.out]
    exact ⟨rfl, HB1.out⟩
theorem check_n (w : World) (k : Int) : Calls Try.prog 50 #[.pointer none, .int .i64 k] w fun e w' => e = .returned (.int .i64 1) ∧ Below w.heap.size w w' := by
  go_enter Try.func50, Try.ntmps50
  go_wp2_with (fail)
  go_ret
  exact ⟨rfl, Below.refl _ _⟩
theorem clone_p (l : List Ent) (A : Option Addr) (c : Nat) (w : World) (hl : l.length ≤ 10000) (hrd : Rd entE 21 w w.heap.size A l) : Calls Try.prog 33 #[.slice A l.length c] w fun e w' => (∃ v, e = .returned v ∧ OwnL entE 21 39 w.heap.size w' v l) ∧ Below w.heap.size w w' := by
  cases A with
  | none =>
    have h0 : l = [] := by
      cases l with
      | nil => rfl
      | cons x r => obtain ⟨b, o, e, _⟩ := hrd 0 x rfl; cases e
    subst h0
    go_enter Try.func33, Try.ntmps33
    have q22 : ∀ (w : World) (a : Option Addr) (n c n' c' : Nat), (binOp .eql 22 (.slice a n c) (.slice none n' c')).run Try.prog w = .ok (.bool a.isNone) w := fun w a n c n' c' => Lib.run_eql_slice_nil w _ _ a n c n' c' Try.underlying22
    go_wp2_with (fail)
    go_ret
    exact ⟨⟨_, rfl, World.ownsRow_nil _ _ _ _⟩, Below.refl _ _⟩
  | some ad =>
    have HRD := Lib.hid hrd
    clear hrd
    obtain ⟨W1, hW1⟩ : ∃ y, w.alloc (.cells #[] 39) = y := ⟨_, rfl⟩
    have HB1 := Lib.hid (show Below w.heap.size w W1 by rw [← hW1]; exact cur_new _ _)
    have HO1 := Lib.hid (show OwnL entE 21 39 w.heap.size W1 (.slice (some ⟨w.heap.size, 0, none⟩) ([] : List Ent).length 0) [] by rw [← hW1]; exact World.ownsRow_made w #[] 0 (Nat.le_refl _) (Nat.zero_le _) (by simp))
    have S1 := Lib.hid hW1
    have q22 : ∀ (w : World) (a : Option Addr) (n c n' c' : Nat), (binOp .eql 22 (.slice a n c) (.slice none n' c')).run Try.prog w = .ok (.bool a.isNone) w := fun w a n c n' c' => Lib.run_eql_slice_nil w _ _ a n c n' c' Try.underlying22
    clear hW1
    go_enter Try.func33, Try.ntmps33
    go_wp2_with (at_builtin; rw [S1.out]; refine wpList_appL Try.enElem W1 rfl (.tmp 5) (.tmp 6) rfl w.heap.size w.heap.size 0 [] rfl HO1.out (some ad) c l rfl (HRD.out.to HB1.out) (by unfold maxLen; simp; omega) (by simp; omega) HB1.out.size ?_)
    intro g cap w2 ho hg _
    have HO := Lib.hid (show OwnL entE 21 39 w.heap.size w2 (.slice (some ⟨g, 0, none⟩) l.length cap) l from ho)
    try change wpList _ _ _ _ (Act.put _ _ (.slice (some ⟨g, 0, none⟩) l.length cap)) w2
    have HB2 := Lib.hid (HB1.out.grown hg HB1.out.size (fun b hb => by injection hb with hb; omega))
    clear ho hg
    go_wp2_with (fail)
    go_ret
    exact ⟨⟨_, rfl, HO.out⟩, HB2.out⟩
def baseV (vs : List Vr) (k : Int) : Int := if hasB vs.length k = true then (vs[k.toNat - 1]?.map Vr.base).getD 0 else 0
def fileV (vs : List Vr) (k : Int) : List Ent := if hasB vs.length k = true then (vs[k.toNat - 1]?.map Vr.l).getD [] else []
theorem base_v (B0 bA : Nat) (V : Option Addr) (c : Nat) (vs : List Vr) (k : Int) (w : World) (hn : vs.length ≤ 64) (hA : ArcS B0 bA V c vs w) :
    Calls Try.prog 31 #[.pointer (some ⟨bA, 0, none⟩), .int .i64 k] w fun e w' => e = .returned (.tuple #[.int .i64 (baseV vs k), .int .i64 (chkV vs.length k)]) ∧ Below w.heap.size w w' := by
  have HA := Lib.hid hA
  clear hA
  go_enter Try.func31, Try.ntmps31
  go_wp2_with (fail)
  refine (check_v w bA V vs.length c k HA.out.blk).mono ?_
  rintro e w1 ⟨rfl, hb1⟩
  have HA1 := Lib.hid (HA.out.to hb1)
  have HB1 := Lib.hid hb1
  clear hb1
  by_cases h : hasB vs.length k = true
  · have HC := Lib.hid (show chkV vs.length k = 0 by unfold chkV; rw [if_pos h])
    rw [HC.out]
    have hk : 1 ≤ k ∧ k ≤ (vs.length : Int) := by unfold hasB at h; simpa using h
    obtain ⟨v, hv⟩ : ∃ v, vs[k.toNat - 1]? = some v := ⟨_, List.getElem?_eq_getElem (by omega)⟩
    obtain ⟨g, rfl, hg, f0, f1⟩ := HA1.out.ver hv
    have HV := Lib.hid (show baseV vs k = v.base by unfold baseV; rw [if_pos h, hv]; rfl)
    have a0 : w1.cell? ⟨bA, 0, none⟩ = some (.slice (some ⟨g, 0, none⟩) vs.length c) := HA1.out.blk.cell 0
    have hl := HA1.out.blk.lt
    obtain ⟨j, hj⟩ : ∃ j : Nat, k = (j : Int) + 1 := ⟨k.toNat - 1, by omega⟩
    subst hj
    have hjn : ((j : Int) + 1).toNat - 1 = j := by omega
    rw [hjn] at f0 f1
    have hjl : j < vs.length := by omega
    have hjk : j < 64 := by omega
    clear f1 hv h hk
    go_wp2_with (fail)
    go_ret2
    rw [HC.out, HV.out]
    exact ⟨rfl, HB1.out⟩
  · have HC := Lib.hid (show chkV vs.length k = 6 by unfold chkV; rw [if_neg h])
    have HV := Lib.hid (show baseV vs k = 0 by unfold baseV; rw [if_neg h])
    rw [HC.out]
    clear h
    go_wp2_with (fail)
    go_ret2
    rw [HC.out, HV.out]
    exact ⟨rfl, HB1.out⟩
theorem get_v (B0 bA : Nat) (V : Option Addr) (c : Nat) (vs : List Vr) (k : Int) (w : World) (hn : vs.length ≤ 64) (hls : ∀ v ∈ vs, v.l.length ≤ 10000) (hA : ArcS B0 bA V c vs w) :
    Calls Try.prog 29 #[.pointer (some ⟨bA, 0, none⟩), .int .i64 k] w fun e w' => (∃ v, e = .returned (.tuple #[v, .int .i64 (chkV vs.length k)]) ∧ OwnL entE 21 39 w.heap.size w' v (fileV vs k)) ∧ Below w.heap.size w w' := by
  have HA := Lib.hid hA
  have HLS := Lib.hid hls
  clear hA hls
  go_enter Try.func29, Try.ntmps29
  go_wp2_with (fail)
  refine (check_v w bA V vs.length c k HA.out.blk).mono ?_
  rintro e w1 ⟨rfl, hb1⟩
  have HA1 := Lib.hid (HA.out.to hb1)
  have HB1 := Lib.hid hb1
  clear hb1
  by_cases h : hasB vs.length k = true
  · have HC := Lib.hid (show chkV vs.length k = 0 by unfold chkV; rw [if_pos h])
    rw [HC.out]
    have hk : 1 ≤ k ∧ k ≤ (vs.length : Int) := by unfold hasB at h; simpa using h
    obtain ⟨v, hv⟩ : ∃ v, vs[k.toNat - 1]? = some v := ⟨_, List.getElem?_eq_getElem (by omega)⟩
    obtain ⟨g, rfl, hg, f0, f1⟩ := HA1.out.ver hv
    have HV := Lib.hid (show fileV vs k = v.l by unfold fileV; rw [if_pos h, hv]; rfl)
    have hvm := List.mem_of_getElem? hv
    have HRV := Lib.hid (HA1.out.rd v hvm)
    have hvl := HLS.out v hvm
    have a0 : w1.cell? ⟨bA, 0, none⟩ = some (.slice (some ⟨g, 0, none⟩) vs.length c) := HA1.out.blk.cell 0
    have hl := HA1.out.blk.lt
    obtain ⟨j, hj⟩ : ∃ j : Nat, k = (j : Int) + 1 := ⟨k.toNat - 1, by omega⟩
    subst hj
    have hjn : ((j : Int) + 1).toNat - 1 = j := by omega
    rw [hjn] at f0 f1
    have hjl : j < vs.length := by omega
    have hjk : j < 64 := by omega
    clear f0 hv h hk hvm
    go_wp2_with (fail)
    refine (clone_p v.l v.a v.c w1 hvl HRV.out).mono ?_
    rintro e w2 ⟨⟨u, rfl, ho⟩, hb2⟩
    have HO := Lib.hid (own_mono ho HB1.out.size)
    have HB2 := Lib.hid (cur_step1 HB1.out hb2)
    clear ho hb2
    go_wp2_with (fail)
    go_ret2
    rw [HC.out, HV.out]
    exact ⟨⟨_, rfl, HO.out⟩, HB2.out⟩
  · have HC := Lib.hid (show chkV vs.length k = 6 by unfold chkV; rw [if_neg h])
    have HV := Lib.hid (show fileV vs k = [] by unfold fileV; rw [if_neg h])
    rw [HC.out]
    clear h
    go_wp2_with (fail)
    go_ret2
    rw [HC.out, HV.out]
    exact ⟨⟨_, rfl, World.ownsRow_nil _ _ _ _⟩, HB1.out⟩
end Go.Proofs.Ytimmlffgokgekaa
