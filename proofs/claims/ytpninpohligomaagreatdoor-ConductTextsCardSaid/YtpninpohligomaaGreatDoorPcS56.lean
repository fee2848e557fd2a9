/-
  Chapter 56: Parse of the program: what the boxes hold between two rounds.
-/
import Derived.Test.YtpninpohligomaaGreatDoorLinP
import Derived.Test.YtpninpohligomaaGreatDoorSpPa56
import Derived.Test.YtpninpohligomaaGreatDoorRfBox
import Derived.Test.YtpninpohligomaaGreatDoorApp
import Derived.Test.YtpninpohligomaaGreatDoorPts56
import Derived.RangeFuncNested
import Derived.RangeFuncCalls
set_option linter.unusedSimpArgs false
set_option linter.unusedVariables false
namespace Go.Proofs.YtpninpohligomaaGreatDoor
open Go.RowKit
set_option maxRecDepth 100000
set_option maxHeartbeats 1000000
/-- Between two rounds: the four boxes. -/
structure PcS (w : World) (pre : List Ln) (W : World) : Prop where
  below : Below w.heap.size w W
  r0 : Boxed W w.heap.size 22 (.slice none 0 0)
  r1 : Boxed W (w.heap.size + 1) 25 (.int .i64 0)
  bx : ∃ u, Boxed W (w.heap.size + 3) 9 u
  out : ∃ v l, Boxed W (w.heap.size + 2) 22 v ∧ OwnL ofE 4 32 w.heap.size W v l ∧ rowsC (pre.map fun x => trimL (lnB x)) = some l
/-- Behind a bad row. -/
structure PcX (w : World) (pre : List Ln) (W : World) : Prop where
  below : Below w.heap.size w W
  r0 : Boxed W w.heap.size 22 (.slice none 0 0)
  r1 : Boxed W (w.heap.size + 1) 25 (.int .i64 4)
  bad : rowsC (pre.map fun x => trimL (lnB x)) = none
theorem boxed_ne {X : World} {row : Option Nat} {B : Nat} (hr : ∀ r, row = some r → B ≤ r ∧ ∃ o : Obj, X.heap[r]? = some o ∧ o.isCells = false) {b : Nat} {t : TypeId} {v : Value} (h : Boxed X b t v) : some b ≠ row := fun e => by
  obtain ⟨_, o, ho, hc⟩ := hr _ e.symm
  rw [show X.heap[b]? = _ from h] at ho
  cases ho; cases hc
theorem own_ne {X : World} {row : Option Nat} {B : Nat} (hr : ∀ r, row = some r → B ≤ r ∧ ∃ o : Obj, X.heap[r]? = some o ∧ o.isCells = false) {α : Type} {enc : α → List Value} {size e base : Nat} {v : Value} {l : List α} (h : OwnL enc size e base X v l) {Y : World} (hg : X.grownBy Y row) : OwnL enc size e base Y v l := by
  refine World.ownsRow.kept h hg ?_
  rcases h.2 with ⟨rfl, _⟩ | ⟨g, cap, cur, rfl, _, hgb, _⟩
  · exact .inl rfl
  · refine .inr fun e' => ?_
    obtain ⟨_, o, ho, hc⟩ := hr g (by simpa [Value.ownBlock] using e'.symm)
    rw [hgb] at ho; cases ho; cases hc
theorem PcS.from (w : World) {B : Nat} (hB : w.heap.size ≤ B) : OwnFrom B (PcS w) := fun s X Y row hs hg hr => by
  obtain ⟨v, l, h1, h2, h3⟩ := hs.out
  obtain ⟨u, h4⟩ := hs.bx
  exact ⟨hs.below.grown hg hs.below.size (fun k e => Nat.le_trans hB (hr k e).1), hs.r0.kept hg (boxed_ne hr hs.r0), hs.r1.kept hg (boxed_ne hr hs.r1), ⟨u, h4.kept hg (boxed_ne hr h4)⟩, v, l, h1.kept hg (boxed_ne hr h1), own_ne hr h2 hg, h3⟩
theorem PcX.from (w : World) {B : Nat} (hB : w.heap.size ≤ B) : OwnFrom B (PcX w) := fun s X Y row hs hg hr =>
  ⟨hs.below.grown hg hs.below.size (fun k e => Nat.le_trans hB (hr k e).1), hs.r0.kept hg (boxed_ne hr hs.r0), hs.r1.kept hg (boxed_ne hr hs.r1), hs.bad⟩
theorem PcS.set {w : World} (s : List Ln) (W : World) (u : Value) (hs : PcS w s W) : PcS w s (W.setCell ⟨w.heap.size + 3, 0, none⟩ u) := by
  obtain ⟨v, l, h1, h2, h3⟩ := hs.out
  obtain ⟨u', h4⟩ := hs.bx
  exact ⟨hs.below.setCell (p := ⟨w.heap.size + 3, 0, none⟩) (by show w.heap.size ≤ w.heap.size + 3; omega) u, hs.r0.other (by omega) u, hs.r1.other (by omega) u, ⟨u, h4.set u⟩, v, l, h1.other (by omega) u, World.ownsRow.kept h2 (grownBy_setCell' W _ u) (.inr (h4.not_row (by decide) h2).symm), h3⟩
theorem PcX.set {w : World} (s : List Ln) (W : World) (u : Value) (hs : PcX w s W) : PcX w s (W.setCell ⟨w.heap.size + 3, 0, none⟩ u) :=
  ⟨hs.below.setCell (p := ⟨w.heap.size + 3, 0, none⟩) (by show w.heap.size ≤ w.heap.size + 3; omega) u, hs.r0.other (by omega) u, hs.r1.other (by omega) u, hs.bad⟩
theorem boxed_to {W W' : World} {b : Nat} {t : TypeId} {v : Value} (h : Boxed W b t v) (hb : Below W.heap.size W W') : Boxed W' b t v := (hb.block b h.lt).trans h
theorem keepsO_below {W W' : World} (h : Below W.heap.size W W') : KeepsOthers W W' := ⟨h.size, fun k o hk _ => (h.block k (Array.getElem?_eq_some_iff.1 hk).1).trans hk⟩
theorem rows_snoc {pre : List Ln} {x : Ln} : rowsC ((pre ++ [x]).map fun x => trimL (lnB x)) = match rowsC (pre.map fun x => trimL (lnB x)), fldC (splitC 32 (trimL (lnB x))) with
    | some l, some z => some (l ++ [z])
    | _, _ => none := by
  rw [List.map_append, rowsC_append, List.map_cons, List.map_nil, rowsC_one]
  cases rowsC (pre.map fun x => trimL (lnB x)) <;> cases fldC (splitC 32 (trimL (lnB x))) <;> rfl
theorem pc_bad {w W W5 : World} {pre : List Ln} {x : Ln} (hs : PcS w pre W) (h5 : Below W.heap.size W W5) (hz : fldC (splitC 32 (trimL (lnB x))) = none) (B : Nat) :
    KeepsFrom B W ((W5.setCell ⟨w.heap.size, 0, none⟩ (.slice none 0 0)).setCell ⟨w.heap.size + 1, 0, none⟩ (.int .i64 4)) ∧ PcX w (pre ++ [x]) ((W5.setCell ⟨w.heap.size, 0, none⟩ (.slice none 0 0)).setCell ⟨w.heap.size + 1, 0, none⟩ (.int .i64 4)) := by
  refine ⟨(((keepsO_below h5).trans (KeepsOthers.setCell _ _ _)).trans (KeepsOthers.setCell _ _ _)).from B, ?_, ?_, ?_, ?_⟩
  · exact ((hs.below.trans (h5.mono hs.below.size)).setCell (p := ⟨w.heap.size, 0, none⟩) (Nat.le_refl _) _).setCell (p := ⟨w.heap.size + 1, 0, none⟩) (Nat.le_succ _) _
  · exact ((boxed_to hs.r0 h5).set _).other (by omega) _
  · exact ((boxed_to hs.r1 h5).other (by omega) _).set _
  · rw [rows_snoc, hz]; cases rowsC (pre.map fun x => trimL (lnB x)) <;> rfl
theorem pc_good {w W W5 w1 : World} {pre : List Ln} {x : Ln} {v v' : Value} {l : List Of} {z : Of} {tmp : Obj} (hs : PcS w pre W) (h5 : Below W.heap.size W W5) (hv : Boxed W (w.heap.size + 2) 22 v) (hown : OwnL ofE 4 32 w.heap.size W v l) (hrows : rowsC (pre.map fun x => trimL (lnB x)) = some l)
    (hz : fldC (splitC 32 (trimL (lnB x))) = some z) (hown' : w1.ownsRow w.heap.size 32 4 v' (l.length + 1) (l.flatMap ofE ++ ofE z)) (hgrow : (W5.drew.alloc tmp).grownBy w1 v.ownBlock) (B : Nat) :
    KeepsFrom B W (w1.setCell ⟨w.heap.size + 2, 0, none⟩ v') ∧ (w1.setCell ⟨w.heap.size + 2, 0, none⟩ v').heap[w.heap.size + 3]? = W.heap[w.heap.size + 3]? ∧ PcS w (pre ++ [x]) (w1.setCell ⟨w.heap.size + 2, 0, none⟩ v') := by
  obtain ⟨u, hu⟩ := hs.bx
  have hv5 : Boxed W5.drew (w.heap.size + 2) 22 v := boxed_drew (boxed_to hv h5)
  have ho5 : OwnL ofE 4 32 w.heap.size W5.drew v l := own_below hown h5.drew (Nat.le_refl _)
  have hb5 : w.heap.size ≤ W5.drew.heap.size := Nat.le_trans hs.below.size h5.size
  obtain ⟨k1, k2, k3, k4, k5⟩ := Boxed.appended hv5 (by decide) ho5 hb5 (by omega) hown' hgrow
  have far : ∀ {b : Nat} {t : TypeId} {u : Value}, Boxed W b t u → t ≠ 32 → b ≠ w.heap.size + 2 → Boxed (w1.setCell ⟨w.heap.size + 2, 0, none⟩ v') b t u := fun {b t u} h ht hne =>
    (((boxed_drew (boxed_to h h5)).alloc tmp).kept hgrow ((boxed_drew (boxed_to h h5)).not_row ht ho5)).other hne _
  have hu6 := far hu (by decide) (by omega)
  refine ⟨((keepsO_below h5).trans ((KeepsOthers.drew _).trans k4)).from B, by rw [show _ = _ from hu6, show W.heap[w.heap.size + 3]? = _ from hu], ?_, far hs.r0 (by decide) (by omega), far hs.r1 (by decide) (by omega), ⟨u, hu6⟩, v', l ++ [z], k2, own_snoc k3, ?_⟩
  · exact (hs.below.trans (h5.mono hs.below.size)).trans ((below_drewN (Below.refl _ _) 1).trans k5)
  · rw [rows_snoc, hrows, hz]
end Go.Proofs.YtpninpohligomaaGreatDoor
