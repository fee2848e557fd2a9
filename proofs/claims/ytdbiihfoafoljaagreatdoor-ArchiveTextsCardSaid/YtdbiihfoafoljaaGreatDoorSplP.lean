/-
  Splitting at one byte, in plain Lean: what strings.Split and the reference's Words answer.
-/
import Derived.Test.YtdbiihfoafoljaaGreatDoorBase
import Derived.Lib.Split
import Derived.Lib.SplitLaws
import Derived.Lib.CountLaws
set_option linter.unusedSimpArgs false
set_option linter.unusedVariables false
namespace Go.Proofs.YtdbiihfoafoljaaGreatDoor
open Go.RowKit
/-- The place of the first c. -/
def atB (c : UInt8) : List UInt8 → Option Nat
  | [] => none
  | x :: r => if x = c then some 0 else (atB c r).map (· + 1)
theorem index_atB (c : UInt8) : ∀ l : List UInt8, Lib.index l [c] = match atB c l with | some i => (i : Int) | none => -1
  | [] => by simp [Lib.index, atB]
  | x :: r => by
    by_cases h : x = c
    · subst h; simp [Lib.index, atB, List.isPrefixOf]
    · have e1 : (List.isPrefixOf [c] (x :: r)) = false := by simp [List.isPrefixOf]; exact fun e => h e.symm
      rw [Lib.index, e1, atB, if_neg h]
      have ih := index_atB c r
      cases hr : atB c r with
      | none => rw [hr] at ih; simp [ih]
      | some i => rw [hr] at ih; simp only [] at ih; simp [ih] <;> omega
theorem atB_lt {c : UInt8} : ∀ {l : List UInt8} {i : Nat}, atB c l = some i → i < l.length
  | [], i, h => by simp [atB] at h
  | x :: r, i, h => by
    unfold atB at h
    split at h
    · injection h with h; subst h; simp
    · cases hr : atB c r with
      | none => rw [hr] at h; simp at h
      | some j =>
        rw [hr] at h
        simp at h
        have := atB_lt hr
        simp; omega
/-- The pieces between the c's. -/
def splitC (c : UInt8) : List UInt8 → List (List UInt8)
  | [] => [[]]
  | x :: r => if x = c then [] :: splitC c r else match splitC c r with
    | [] => [[x]]
    | h :: t => (x :: h) :: t
theorem splitC_ne (c : UInt8) (l : List UInt8) : splitC c l ≠ [] := by
  cases l with
  | nil => simp [splitC]
  | cons x r => unfold splitC; split <;> (try split) <;> simp
theorem splitC_miss {c : UInt8} : ∀ {l : List UInt8}, atB c l = none → splitC c l = [l]
  | [], _ => rfl
  | x :: r, h => by
    unfold atB at h
    split at h
    · cases h
    · rename_i hx
      have hr : atB c r = none := by simpa using h
      rw [splitC, if_neg hx, splitC_miss hr]
theorem splitC_hit {c : UInt8} : ∀ {l : List UInt8} {i : Nat}, atB c l = some i → splitC c l = l.take i :: splitC c (l.drop (i + 1))
  | [], i, h => by simp [atB] at h
  | x :: r, i, h => by
    unfold atB at h
    split at h
    · rename_i hx
      injection h with h; subst h
      rw [splitC, if_pos hx]; simp
    · rename_i hx
      cases hr : atB c r with
      | none => rw [hr] at h; simp at h
      | some j =>
        rw [hr] at h
        simp at h
        subst h
        rw [splitC, if_neg hx, splitC_hit hr]
        simp
theorem splitK_one (c : UInt8) : ∀ (n : Nat) (l : List UInt8), l.length ≤ n → Lib.splitK [c] 0 (Lib.count l [c]) l = splitC c l := by
  intro n
  induction n with
  | zero =>
    intro l hl
    have : l = [] := List.eq_nil_of_length_eq_zero (by omega)
    subst this
    rfl
  | succ n ih =>
    intro l hl
    have hi := index_atB c l
    cases ha : atB c l with
    | none =>
      rw [ha] at hi
      rw [Lib.count_miss hi, splitC_miss ha]; rfl
    | some i =>
      rw [ha] at hi
      simp only [] at hi
      have hlt := atB_lt ha
      rw [Lib.count_hit (by simp) hi, splitC_hit ha, Nat.add_comm 1]
      unfold Lib.splitK
      have hm : ¬ (Lib.index l [c] == -1) = true := fun e => by have := beq_iff_eq.1 e; omega
      rw [if_neg hm, hi, Int.toNat_natCast]
      simp only [Nat.add_zero, List.length_cons, List.length_nil, Nat.zero_add]
      rw [ih (l.drop (i + 1)) (by rw [List.length_drop]; omega)]
theorem splitB_one (c : UInt8) (s : ByteArray) : (Lib.splitB ⟨#[c]⟩ 0 (Lib.countB s ⟨#[c]⟩) s).map (·.data.toList) = splitC c s.data.toList := by
  rw [Lib.splitB_data]
  exact splitK_one c _ _ (Nat.le_refl _)
/-- The pieces as strings. -/
def splS (c : UInt8) (l : List UInt8) : List ByteArray := (splitC c l).map fun x => ⟨x.toArray⟩
theorem splS_map (c : UInt8) (s : ByteArray) : Lib.splitB ⟨#[c]⟩ 0 (Lib.countB s ⟨#[c]⟩) s = splS c s.data.toList := by
  unfold splS
  rw [← splitB_one, List.map_map]
  have : ((fun x : List UInt8 => (⟨x.toArray⟩ : ByteArray)) ∘ fun x : ByteArray => x.data.toList) = id := by
    funext x; simp
  rw [this, List.map_id]
theorem splS_len (c : UInt8) (s : ByteArray) : (splS c s.data.toList).length = Lib.countB s ⟨#[c]⟩ + 1 := by
  rw [← splS_map]
  exact Lib.splitB_all _ (by show 1 ≤ (1 : Nat); decide) 0 _ s rfl
theorem atB_app {c : UInt8} {a b : List UInt8} (h : c ∉ a) : atB c (a ++ c :: b) = some a.length := by
  induction a with
  | nil => simp [atB]
  | cons x r ih =>
    simp at h
    rw [List.cons_append, atB, if_neg (fun e => h.1 e.symm), ih h.2]; simp
theorem splitC_app {c : UInt8} {a b : List UInt8} (h : c ∉ a) : splitC c (a ++ c :: b) = a :: splitC c b := by
  rw [splitC_hit (atB_app h)]
  simp
theorem splitC_none {c : UInt8} {a : List UInt8} (h : c ∉ a) : splitC c a = [a] := by
  refine splitC_miss ?_
  induction a with
  | nil => rfl
  | cons x r ih =>
    simp at h
    rw [atB, if_neg (fun e => h.1 e.symm), ih h.2]; rfl
end Go.Proofs.YtdbiihfoafoljaaGreatDoor
