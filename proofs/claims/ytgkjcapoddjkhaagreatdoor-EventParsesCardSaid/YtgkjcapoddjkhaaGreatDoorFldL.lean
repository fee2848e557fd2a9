/-
  Chapter 3's lines: how long the fields of a line are. Plain.
-/
import Derived.Test.YtgkjcapoddjkhaaGreatDoorLogP
import Derived.Test.YtgkjcapoddjkhaaGreatDoorTxC
set_option linter.unusedSimpArgs false
set_option linter.unusedVariables false
namespace Go.Proofs.YtgkjcapoddjkhaaGreatDoor
open Go.RowKit
def totF (fs : List Fld) : Nat := (fs.map (fun f => f.text.length + 1)).sum
theorem totF_app (a : List Fld) (f : Fld) : totF (a ++ [f]) = totF a + (f.text.length + 1) := by unfold totF; simp
theorem quoL_rel : ∀ (j : Nat) (acc r : List UInt8), (quoL j acc r).1.length + j ≤ (quoL j acc r).2.1 + acc.length
  | j, _, [] => by simp [quoL]
  | j, acc, [c] => by
    unfold quoL
    split
    · show acc.length + j ≤ j + 1 + acc.length; omega
    · split <;> (simp; try omega)
  | j, acc, c :: d :: r => by
    unfold quoL
    split
    · split
      · have := quoL_rel (j + 2) (acc ++ [34]) r
        simp at this ⊢; omega
      · show acc.length + j ≤ j + 1 + acc.length; omega
    · split
      · have := quoL_rel (j + 1) (acc ++ [c]) (d :: r)
        simp at this ⊢; omega
      · simp
theorem fldF_tot : ∀ (n i : Nat) (aft : Bool) (acc : List Fld) (rest : List UInt8), totF (fldF n i aft acc rest).1 ≤ totF acc + 2 * rest.length
  | 0, _, _, acc, _ => by simp [fldF]
  | n + 1, _, _, acc, [] => by simp [fldF]
  | n + 1, i, aft, acc, c :: r => by
    unfold fldF
    split
    · have := fldF_tot n (i + 1) false acc r
      simp only [List.length_cons]; omega
    split
    · show totF acc ≤ _; omega
    split
    · show totF [] ≤ _; simp [totF]
    split
    · dsimp only
      split
      · next hq =>
        have h1 := quoL_rel (i + 1) [] r
        have h2 := quoL_le (i + 1) [] r
        have h3 := quoL_gt hq
        have := fldF_tot n (quoL (i + 1) [] r).2.1 true (acc ++ [⟨(quoL (i + 1) [] r).1, (i : Int) + 1, true⟩]) ((c :: r).drop ((quoL (i + 1) [] r).2.1 - i))
        rw [totF_app, List.length_drop, List.length_cons] at this
        dsimp only at this
        simp only [List.length_nil, Nat.add_zero] at h1
        simp only [List.length_cons]
        omega
      · show totF [] ≤ _; simp [totF]
    · dsimp only
      split
      · show totF [] ≤ _; simp [totF]
      · next hk =>
        have := fldF_tot n (i + ((c :: r).takeWhile wordC).length) false (acc ++ [⟨(c :: r).take ((c :: r).takeWhile wordC).length, (i : Int) + 1, false⟩]) ((c :: r).drop ((c :: r).takeWhile wordC).length)
        rw [totF_app, List.length_drop] at this
        dsimp only at this
        rw [List.length_take] at this
        have hk1 : ((c :: r).takeWhile wordC).length ≠ 0 := fun h => hk (.inl h)
        have hk2 : ((c :: r).takeWhile wordC).length ≤ (c :: r).length := (List.takeWhile_sublist wordC).length_le
        omega
theorem fieldsP_tot (s : List UInt8) : totF (fieldsP s).1 ≤ 2 * s.length := by
  have := fldF_tot (s.length + 1) 0 false [] s
  have h : totF [] = 0 := rfl
  unfold fieldsP
  omega
theorem joinS_tot : ∀ (fs : List Fld), (joinS (fs.map (·.text))).length ≤ totF fs ∧ fs.length ≤ totF fs
  | [] => by simp [joinS, totF]
  | f :: r => by
    have ih := joinS_tot r
    have h : totF (f :: r) = f.text.length + 1 + totF r := by unfold totF; simp
    refine ⟨?_, by rw [h, List.length_cons]; omega⟩
    rw [List.map_cons, joinS, h]
    split
    · omega
    · rw [List.length_append, List.length_cons]; omega
/-- What ParseLog wants of a line. -/
def LinOk (x : Lin) : Prop := x.fs ≠ [] ∧ x.fs.length ≤ 1000 * 2 ∧ (joinF x.fs).1.length ≤ 2000
theorem linP_ok {s : List UInt8} (h : 0 < (linP s).1.length) (n : Int) : LinOk ⟨n, (linP s).1⟩ := by
  have hs : s.length ≤ 1000 := by
    rcases Nat.lt_or_ge 1000 s.length with h1 | h1
    · unfold linP at h; rw [if_neg (by omega)] at h; simp at h
    · exact h1
  have he : (linP s).1 = (fieldsP s).1 := by unfold linP; rw [if_pos hs]
  have ht := fieldsP_tot s
  have hj := joinS_tot (fieldsP s).1
  refine ⟨List.length_pos_iff.1 h, ?_, ?_⟩
  · show (linP s).1.length ≤ _
    rw [he]; omega
  · show (joinF (linP s).1).1.length ≤ _
    rw [he]
    unfold joinF
    split
    · simp
    · show (joinS _).length ≤ _; omega
theorem splF_ok : ∀ (l : List (List UInt8)) (i : Nat) (a : List Lin × List Dg), (∀ x ∈ a.1, LinOk x) → ∀ x ∈ (splF i a l).1, LinOk x
  | [], i, a, h => h
  | s :: l, i, a, h => by
    refine splF_ok l (i + 1) (splStep a i s) ?_
    unfold splStep
    split
    · exact h
    split
    · next hc =>
      intro x hx
      rcases List.mem_append.1 hx with hx | hx
      · exact h x hx
      · simp at hx; subst hx; exact linP_ok hc.2 _
    · exact h
theorem splitP_ok (src : List UInt8) : ∀ x ∈ (splitP src).1, LinOk x := by
  unfold splitP
  split
  · simp
  · exact splF_ok _ 0 _ (by simp)
theorem splF_len : ∀ (l : List (List UInt8)) (i : Nat) (a : List Lin × List Dg), (splF i a l).1.length ≤ a.1.length + l.length
  | [], i, a => by simp [splF]
  | s :: l, i, a => by
    have ih := splF_len l (i + 1) (splStep a i s)
    have h1 : (splStep a i s).1.length ≤ a.1.length + 1 := by unfold splStep; split <;> (try split) <;> simp
    show (splF (i + 1) (splStep a i s) l).1.length ≤ _
    rw [List.length_cons]; omega
end Go.Proofs.YtgkjcapoddjkhaaGreatDoor
