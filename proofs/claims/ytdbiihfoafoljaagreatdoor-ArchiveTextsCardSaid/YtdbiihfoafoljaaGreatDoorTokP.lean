/-
  Numerals and names have no blank and no line's end.
-/
import Derived.Test.YtdbiihfoafoljaaGreatDoorOvP
import Derived.Test.YtdbiihfoafoljaaGreatDoorName
import Derived.Test.YtdbiihfoafoljaaGreatDoorLinP
set_option linter.unusedSimpArgs false
set_option linter.unusedVariables false
namespace Go.Proofs.YtdbiihfoafoljaaGreatDoor
open Go.RowKit
/-- Free of blanks and ends of lines. -/
def Tok (l : List UInt8) : Prop := (32 : UInt8) ∉ l ∧ (10 : UInt8) ∉ l
theorem tok_dec (u : Nat) : Tok (Lib.decDigits u) := by
  have h := decDigits_digs u
  rw [List.all_eq_true] at h
  exact ⟨fun hm => by have := h _ hm; revert this; decide, fun hm => by have := h _ hm; revert this; decide⟩
theorem nmR_mem : ∀ (l : List Int) (i : Nat), nmR i l = true → ∀ x ∈ l, 45 ≤ x
  | [], _, _, x, h => by cases h
  | y :: r, i, h, x, hx => by
    unfold nmR at h
    rw [Bool.and_eq_true] at h
    rcases List.mem_cons.1 hx with rfl | hx
    · by_cases hc : x < 45
      · exfalso
        have := nmC_false (k := i) (x := x) (by omega)
        rw [this] at h
        exact absurd h.1 (by simp)
      · omega
    · exact nmR_mem r (i + 1) h.2 x hx
theorem tok_name {s : ByteArray} (h : nameB s = true) : Tok s.data.toList := by
  unfold nameB at h
  rw [Bool.and_eq_true] at h
  have key := nmR_mem _ 0 h.1
  have go : ∀ c : UInt8, c.toNat < 45 → c ∉ s.data.toList := fun c hc hm => by
    have := key (c.toNat : Int) (by unfold codes; exact List.mem_map.2 ⟨c, hm, rfl⟩)
    omega
  exact ⟨go 32 (by decide), go 10 (by decide)⟩
theorem split_two {a b : List UInt8} (ha : Tok a) (hb : Tok b) : splitC 32 (a ++ 32 :: b) = [a, b] := by
  rw [splitC_app ha.1, splitC_none hb.1]
theorem split_three {a b c : List UInt8} (ha : Tok a) (hb : Tok b) (hc : Tok c) : splitC 32 (a ++ 32 :: (b ++ 32 :: c)) = [a, b, c] := by
  rw [splitC_app ha.1, split_two hb hc]
theorem split_four {a b c d : List UInt8} (ha : Tok a) (hb : Tok b) (hc : Tok c) (hd : Tok d) : splitC 32 (a ++ 32 :: (b ++ 32 :: (c ++ 32 :: d))) = [a, b, c, d] := by
  rw [splitC_app ha.1, split_three hb hc hd]
theorem tok_app {a b : List UInt8} (ha : (10 : UInt8) ∉ a) (hb : (10 : UInt8) ∉ b) : (10 : UInt8) ∉ a ++ 32 :: b := by
  simp only [List.mem_append, List.mem_cons, not_or]
  exact ⟨ha, by decide, hb⟩
/-- Rows that each end a line. -/
theorem split_rows : ∀ {R : List (List UInt8)}, (∀ r ∈ R, (10 : UInt8) ∉ r) → splitC 10 (R.flatMap fun r => r ++ [10]) = R ++ [[]]
  | [], _ => rfl
  | r :: t, h => by
    rw [List.flatMap_cons, List.append_assoc, List.singleton_append, splitC_app (h r List.mem_cons_self), split_rows (R := t) (fun x hx => h x (List.mem_cons_of_mem _ hx))]; rfl
theorem rows_rows {R : List (List UInt8)} (h : ∀ r ∈ R, (10 : UInt8) ∉ r) : rowsR (splitC 10 (R.flatMap fun r => r ++ [10])) = R := by
  rw [split_rows h, rowsR_end (by simp)]; simp
theorem flat_last (R : List (List UInt8)) : (R.flatMap fun r => r ++ [10]) = [] ∨ (R.flatMap fun r => r ++ [10]).getLast? = some 10 := by
  rcases List.eq_nil_or_concat R with rfl | ⟨t, r, rfl⟩
  · exact .inl rfl
  · right
    simp
end Go.Proofs.YtdbiihfoafoljaaGreatDoor
