/-
  The lines of a string, in plain Lean: what strings.Lines gives, and the rows behind the trimming.
-/
import Derived.Test.YtdbiihfoafoljaaGreatDoorSplP
set_option linter.unusedSimpArgs false
set_option linter.unusedVariables false
namespace Go.Proofs.YtdbiihfoafoljaaGreatDoor
open Go.RowKit
/-- The lines out of the pieces. -/
def linesR : List (List UInt8) → List (List UInt8)
  | [] => []
  | r :: t => if t = [] then (if r = [] then [] else [r]) else (r ++ [10]) :: linesR t
def linesC (l : List UInt8) : List (List UInt8) := linesR (splitC 10 l)
theorem linesC_nil : linesC [] = [] := by simp [linesC, splitC, linesR]
theorem linesC_last {l : List UInt8} (h : atB 10 l = none) (hl : l ≠ []) : linesC l = [l] := by
  rw [linesC, splitC_miss h, linesR, if_pos rfl, if_neg hl]
theorem atB_cut {c : UInt8} : ∀ {l : List UInt8} {i : Nat}, atB c l = some i → l.take (i + 1) = l.take i ++ [c]
  | [], i, h => by simp [atB] at h
  | x :: r, i, h => by
    unfold atB at h
    split at h
    · rename_i hx
      injection h with h; subst h; simp [hx]
    · cases hr : atB c r with
      | none => rw [hr] at h; simp at h
      | some j =>
        rw [hr] at h
        simp at h
        subst h
        have := atB_cut hr
        simp only [List.take_succ_cons, this, List.cons_append]
theorem linesC_cut {l : List UInt8} {i : Nat} (h : atB 10 l = some i) : linesC l = l.take (i + 1) :: linesC (l.drop (i + 1)) := by
  rw [linesC, splitC_hit h, linesR, if_neg (splitC_ne _ _), atB_cut h]; rfl
/-- A line without its end. -/
def trimL (x : List UInt8) : List UInt8 := if x.getLast? = some 10 then x.dropLast else x
theorem trimL_end (r : List UInt8) : trimL (r ++ [10]) = r := by simp [trimL]
/-- The rows that the program reads. -/
def rowsR : List (List UInt8) → List (List UInt8)
  | [] => []
  | r :: t => if t = [] then (if r = [] then [] else [r]) else r :: rowsR t
theorem splitC_mem (c : UInt8) : ∀ (l : List UInt8), ∀ r ∈ splitC c l, c ∉ r
  | [], r, h => by simp [splitC] at h; subst h; simp
  | x :: t, r, h => by
    by_cases hx : x = c
    · rw [splitC, if_pos hx] at h
      rcases List.mem_cons.1 h with rfl | h
      · simp
      · exact splitC_mem c t r h
    · rw [splitC, if_neg hx] at h
      cases hs : splitC c t with
      | nil => exact absurd hs (splitC_ne c t)
      | cons a b =>
        rw [hs] at h
        simp only [] at h
        rcases List.mem_cons.1 h with rfl | h
        · have := splitC_mem c t a (by rw [hs]; simp)
          simp only [List.mem_cons, not_or]
          exact ⟨fun e => hx e.symm, this⟩
        · exact splitC_mem c t r (by rw [hs]; exact List.mem_cons_of_mem _ h)
theorem linesR_trim : ∀ {R : List (List UInt8)}, (∀ r ∈ R, (10 : UInt8) ∉ r) → (linesR R).map trimL = rowsR R
  | [], _ => rfl
  | r :: t, h => by
    have hr := h r List.mem_cons_self
    have ht := linesR_trim (R := t) (fun x hx => h x (List.mem_cons_of_mem _ hx))
    rw [linesR, rowsR]
    by_cases h1 : t = []
    · rw [if_pos h1, if_pos h1]
      by_cases h2 : r = []
      · rw [if_pos h2]; rfl
      · rw [if_neg h2, List.map_cons, List.map_nil, trimL, if_neg]
        intro e
        exact hr (List.mem_of_getLast? e)
    · rw [if_neg h1, if_neg h1, List.map_cons, trimL_end, ht]
theorem linesC_trim (l : List UInt8) : (linesC l).map trimL = rowsR (splitC 10 l) := linesR_trim (splitC_mem 10 l)
/-- Behind a line's end nothing is left: all pieces but the last one. -/
theorem rowsR_end : ∀ {R : List (List UInt8)}, R.getLast? = some [] → rowsR R = R.dropLast
  | [], h => by simp at h
  | [r], h => by simp at h; subst h; rfl
  | r :: s :: t, h => by
    rw [rowsR, if_neg (by simp), rowsR_end (R := s :: t) (by simpa using h)]; rfl
theorem splitC_last {c : UInt8} : ∀ {l : List UInt8}, l = [] ∨ l.getLast? = some c → (splitC c l).getLast? = some []
  | [], _ => by simp [splitC]
  | x :: r, h => by
    have hr : r = [] ∨ r.getLast? = some c := by
      rcases h with h | h
      · cases h
      · cases r with
        | nil => exact .inl rfl
        | cons y q => exact .inr (by simpa using h)
    by_cases hx : x = c
    · rw [splitC, if_pos hx]
      have ih := splitC_last hr
      cases hs : splitC c r with
      | nil => exact absurd hs (splitC_ne c r)
      | cons a b => rw [hs] at ih; simpa using ih
    · rw [splitC, if_neg hx]
      have ih := splitC_last hr
      cases hs : splitC c r with
      | nil => exact absurd hs (splitC_ne c r)
      | cons a b =>
        rw [hs] at ih
        simp only []
        cases b with
        | nil =>
          rcases h with h | h
          · cases h
          · cases r with
            | nil => simp at h; exact absurd h hx
            | cons y q =>
              exfalso
              simp at ih
              subst ih
              -- r has no c, but ends with c
              have h3 : c ∈ (y :: q) := List.mem_of_getLast? (by simpa using h)
              have h4 : ∀ (l : List UInt8), splitC c l = [[]] → l = [] := by
                intro l hl
                cases l with
                | nil => rfl
                | cons u v =>
                  by_cases hu : u = c
                  · rw [splitC, if_pos hu] at hl
                    injection hl with _ hl
                    exact absurd hl (splitC_ne c v)
                  · rw [splitC, if_neg hu] at hl
                    cases hv : splitC c v with
                    | nil => exact absurd hv (splitC_ne c v)
                    | cons a b => rw [hv] at hl; simp at hl
              have := h4 _ hs
              cases this
        | cons d e => simpa using ih
theorem linesC_small : ∀ (n : Nat) (l : List UInt8), l.length ≤ n → (∀ x ∈ linesC l, x.length ≤ l.length) ∧ (linesC l).length ≤ l.length := by
  intro n
  induction n with
  | zero =>
    intro l hl
    have : l = [] := List.eq_nil_of_length_eq_zero (by omega)
    subst this
    rw [linesC_nil]; simp
  | succ n ih =>
    intro l hl
    cases ha : atB 10 l with
    | none =>
      by_cases h : l = []
      · subst h; rw [linesC_nil]; simp
      · rw [linesC_last ha h]
        refine ⟨fun x hx => by simp at hx; subst hx; exact Nat.le_refl _, ?_⟩
        have := List.length_pos_iff.2 h
        simp; omega
    | some i =>
      have hlt := atB_lt ha
      rw [linesC_cut ha]
      obtain ⟨h1, h2⟩ := ih (l.drop (i + 1)) (by rw [List.length_drop]; omega)
      rw [List.length_drop] at h2
      refine ⟨fun x hx => ?_, by simp; omega⟩
      rcases List.mem_cons.1 hx with rfl | hx
      · rw [List.length_take]; omega
      · have := h1 x hx; rw [List.length_drop] at this; omega
/-- A line: a string of bounded length. -/
abbrev Ln := { x : ByteArray // x.size ≤ 1000 }
def lnB (x : Ln) : List UInt8 := x.1.data.toList
end Go.Proofs.YtdbiihfoafoljaaGreatDoor
