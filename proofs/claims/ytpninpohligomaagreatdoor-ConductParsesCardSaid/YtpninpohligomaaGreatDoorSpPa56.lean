/-
  Chapter 56: parsing a book, in plain Lean.
-/
import Derived.Test.YtpninpohligomaaGreatDoorSpT56
import Derived.Test.YtpninpohligomaaGreatDoorSplP
set_option linter.unusedSimpArgs false
set_option linter.unusedVariables false
namespace Go.Proofs.YtpninpohligomaaGreatDoor
open Go.RowKit
def baT (x : List UInt8) : ByteArray := ⟨x.toArray⟩
/-- The entry of four fields. -/
def fldC : List (List UInt8) → Option Of
  | [a, b, c, d] => if (numP a 1 1099511627776).2 = 0 ∧ (numP c 0 1000000).2 = 0 ∧ (numP d 1 8).2 = 0 then some ⟨(numP a 1 1099511627776).1, baT b, (numP c 0 1000000).1, (numP d 1 8).1⟩ else none
  | _ => none
/-- The entries of rows. -/
def rowsC : List (List UInt8) → Option (List Of)
  | [] => some []
  | r :: t => match fldC (splitC 32 r), rowsC t with
    | some z, some l => some (z :: l)
    | _, _ => none
theorem rowsC_append : ∀ (a b : List (List UInt8)), rowsC (a ++ b) = match rowsC a, rowsC b with
    | some x, some y => some (x ++ y)
    | _, _ => none
  | [], b => by simp [rowsC]; cases rowsC b <;> rfl
  | r :: t, b => by
    rw [List.cons_append, rowsC, rowsC, rowsC_append t b]
    cases fldC (splitC 32 r) <;> cases rowsC t <;> cases rowsC b <;> rfl
theorem rowsC_one (r : List UInt8) : rowsC [r] = (fldC (splitC 32 r)).map fun z => [z] := by
  rw [rowsC, rowsC]
  cases fldC (splitC 32 r) <;> rfl
theorem rowsC_next {R : List (List UInt8)} {k : Nat} {r : List UInt8} {l : List Of} {z : Of} (hr : R[k]? = some r) (h : rowsC (R.take k) = some l) (hz : fldC (splitC 32 r) = some z) : rowsC (R.take (k + 1)) = some (l ++ [z]) := by
  rw [List.take_add_one, hr, rowsC_append, h]
  show (match some l, rowsC [r] with | some x, some y => some (x ++ y) | _, _ => none) = _
  rw [rowsC_one, hz]; rfl
theorem rowsC_bad {R : List (List UInt8)} {k : Nat} {r : List UInt8} (hr : R[k]? = some r) (hz : fldC (splitC 32 r) = none) : rowsC R = none := by
  obtain ⟨hk, rfl⟩ := List.getElem?_eq_some_iff.1 hr
  have e : R = R.take k ++ (R[k] :: R.drop (k + 1)) := by rw [← List.drop_eq_getElem_cons hk, List.take_append_drop]
  rw [e, rowsC_append]
  have h2 : rowsC (R[k] :: R.drop (k + 1)) = none := by
    rw [rowsC, hz]
  rw [h2]
  cases rowsC (R.take k) <;> rfl
theorem splitC_small (c : UInt8) : ∀ (l : List UInt8), (∀ x ∈ splitC c l, x.length ≤ l.length) ∧ (splitC c l).length ≤ l.length + 1
  | [] => by simp [splitC]
  | x :: r => by
    obtain ⟨h1, h2⟩ := splitC_small c r
    by_cases hx : x = c
    · rw [splitC, if_pos hx]
      refine ⟨fun y hy => ?_, by simp; omega⟩
      rcases List.mem_cons.1 hy with rfl | hy
      · simp
      · have := h1 y hy; simp; omega
    · rw [splitC, if_neg hx]
      cases hs : splitC c r with
      | nil => exact absurd hs (splitC_ne c r)
      | cons a b =>
        rw [hs] at h1 h2
        simp only []
        refine ⟨fun y hy => ?_, by simp at h2 ⊢; omega⟩
        rcases List.mem_cons.1 hy with rfl | hy
        · have := h1 a List.mem_cons_self; simp; omega
        · have := h1 y (List.mem_cons_of_mem _ hy); simp; omega
theorem rowsC_size {n : Nat} : ∀ {R : List (List UInt8)} {l : List Of}, rowsC R = some l → (∀ r ∈ R, r.length ≤ n) → (∀ z ∈ l, z.p.size ≤ n) ∧ l.length = R.length
  | [], l, h, _ => by
    rw [rowsC] at h
    injection h with h
    subst h
    simp
  | r :: t, l, h, hn => by
    rw [rowsC] at h
    cases hz : fldC (splitC 32 r) with
    | none => rw [hz] at h; cases h
    | some z =>
      cases ht : rowsC t with
      | none => rw [hz, ht] at h; cases h
      | some m =>
        rw [hz, ht] at h
        injection h with h
        subst h
        obtain ⟨i1, i2⟩ := rowsC_size (n := n) ht (fun x hx => hn x (List.mem_cons_of_mem _ hx))
        refine ⟨fun y hy => ?_, by simp [i2]⟩
        rcases List.mem_cons.1 hy with rfl | hy
        · have hsm := splitC_small 32 r
          unfold fldC at hz
          split at hz
          · next a b c d hs =>
            split at hz
            · injection hz with hz
              subst hz
              have := hsm.1 b (by rw [hs]; simp)
              have h3 := hn r List.mem_cons_self
              show (baT b).size ≤ n
              have h4 : (baT b).size = b.length := by show b.toArray.size = _; simp
              omega
            · cases hz
          · cases hz
        · exact i1 y hy
/-- What Parse answers, by the rows. -/
def ParC (R : List (List UInt8)) (s : List UInt8) : List Of × Int := match rowsC R with
  | none => ([], 4)
  | some l => if (TxtC l).2 = 0 ∧ (TxtC l).1 = s then (l, 0) else ([], 4)
end Go.Proofs.YtpninpohligomaaGreatDoor
