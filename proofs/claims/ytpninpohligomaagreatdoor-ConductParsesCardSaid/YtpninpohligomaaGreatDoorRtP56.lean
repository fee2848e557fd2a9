/-
  Chapter 56: the text of a book is read back; both ways of reading answer alike. Plain.
-/
import Derived.Test.YtpninpohligomaaGreatDoorTokP
import Derived.Test.YtpninpohligomaaGreatDoorSpPa56
set_option linter.unusedSimpArgs false
set_option linter.unusedVariables false
namespace Go.Proofs.YtpninpohligomaaGreatDoor
open Go.RowKit
/-- A row without its end. -/
def rowN (z : Of) : List UInt8 := dcB z.id ++ 32 :: (z.p.data.toList ++ 32 :: (dcB z.d ++ 32 :: dcB z.n))
theorem rowC_N (z : Of) : rowC z = rowN z ++ [10] := by simp [rowC, rowN]
theorem txtC_rows (l : List Of) : txtC l = (l.map rowN).flatMap fun r => r ++ [10] := by
  unfold txtC
  induction l with
  | nil => rfl
  | cons z r ih => rw [List.flatMap_cons, List.map_cons, List.flatMap_cons, ih, rowC_N]
theorem rowN_ten {z : Of} (h : okO z) : (10 : UInt8) ∉ rowN z :=
  tok_app (tok_dec _).2 (tok_app (tok_name h.2.1).2 (tok_app (tok_dec _).2 (tok_dec _).2))
theorem numP_dc {n lo hi : Int} (h0 : 0 ≤ n) (h1 : lo ≤ n) (h2 : n ≤ hi) : numP (dcB n) lo hi = (n, 0) := by
  obtain ⟨u, rfl⟩ : ∃ u : Nat, n = u := ⟨n.toNat, by omega⟩
  unfold dcB
  rw [Int.toNat_natCast]
  exact numP_dec h1 h2
theorem tok_dc (n : Int) : Tok (dcB n) := tok_dec _
theorem fldC_row {z : Of} (h : okO z) : fldC (splitC 32 (rowN z)) = some z := by
  unfold rowN
  rw [split_four (tok_dc _) (tok_name h.2.1) (tok_dc _) (tok_dc _)]
  obtain ⟨⟨h1, h2⟩, _, h3, h4, h5⟩ := h
  have hd : 0 ≤ z.d ∧ z.d ≤ 1000000 := by unfold isDayB at h3; simp at h3; omega
  unfold fldC
  simp only []
  rw [numP_dc (by omega) h1 h2, numP_dc hd.1 hd.1 hd.2, numP_dc (by omega) h4 h5, if_pos ⟨rfl, rfl, rfl⟩]
  simp [baT]
theorem rowsC_rows : ∀ {l : List Of}, (∀ z ∈ l, okO z) → rowsC (l.map rowN) = some l
  | [], _ => rfl
  | z :: r, h => by
    rw [List.map_cons, rowsC, fldC_row (h z List.mem_cons_self), rowsC_rows (l := r) (fun x hx => h x (List.mem_cons_of_mem _ hx))]
theorem par_back {l : List Of} (h : ckO l = 0) : ParC (rowsR (splitC 10 (txtC l))) (txtC l) = (l, 0) := by
  obtain ⟨_, hok⟩ := okO_of h
  have hT : TxtC l = (txtC l, 0) := by unfold TxtC; rw [if_neg (by simpa using h)]
  rw [txtC_rows, rows_rows (fun r hr => by obtain ⟨z, hz, rfl⟩ := List.mem_map.1 hr; exact rowN_ten (hok z hz)), ← txtC_rows]
  unfold ParC
  rw [rowsC_rows hok]
  simp only []
  rw [hT, if_pos ⟨rfl, rfl⟩]
theorem par_cases (R : List (List UInt8)) (s : List UInt8) : ParC R s = ([], 4) ∨ ∃ l, ParC R s = (l, 0) ∧ ckO l = 0 ∧ txtC l = s := by
  unfold ParC
  cases rowsC R with
  | none => exact .inl rfl
  | some l =>
    simp only []
    split
    · rename_i h
      have hck : ckO l = 0 := by
        by_cases h0 : ckO l = 0
        · exact h0
        · exfalso
          have : (TxtC l).2 = ckO l := by unfold TxtC; rw [if_pos h0]
          exact h0 (by rw [← this]; exact h.1)
      have hT : TxtC l = (txtC l, 0) := by unfold TxtC; rw [if_neg (by simpa using hck)]
      exact .inr ⟨l, rfl, hck, by rw [← h.2, hT]⟩
    · exact .inl rfl
theorem par_same (s : List UInt8) : ParC (rowsR (splitC 10 s)) s = ParC (splitC 10 s).dropLast s := by
  by_cases h : s = [] ∨ s.getLast? = some 10
  · rw [rowsR_end (splitC_last h)]
  · have bad : ∀ R, ParC R s = ([], 4) := fun R => by
      rcases par_cases R s with h1 | ⟨l, _, _, h2⟩
      · exact h1
      · exfalso
        rw [txtC_rows] at h2
        exact h (by rw [← h2]; exact flat_last _)
    rw [bad, bad]
theorem ckO_small {l : List Of} (h : ckO l = 0) : l.length ≤ 2000 ∧ ∀ z ∈ l, z.p.size ≤ 16 := by
  obtain ⟨h1, h2⟩ := okO_of h
  refine ⟨h1, fun z hz => ?_⟩
  have := (h2 z hz).2.1
  unfold nameB at this
  simp at this
  omega
theorem rowC_len59 {z : Of} (h : okO z) : (rowC z).length ≤ 59 := by
  obtain ⟨⟨h1, h2⟩, h3, h4, h5, h6⟩ := h
  have hd : z.d ≤ 1000000 := by unfold isDayB at h4; simp at h4; omega
  have hp : z.p.data.toList.length ≤ 16 := by
    have : z.p.size ≤ 16 := by
      unfold nameB at h3
      simp at h3
      omega
    simpa using this
  have a := dcB_len (n := z.id) h2
  have b := dcB_len (n := z.d) (by omega)
  have c := dcB_len (n := z.n) (by omega)
  unfold rowC
  simp only [List.length_append, List.length_cons, List.length_nil]
  omega
theorem txtC_len59 : ∀ {l : List Of}, (∀ z ∈ l, okO z) → (txtC l).length ≤ 59 * l.length := by
  intro l
  induction l with
  | nil => intro _; simp [txtC]
  | cons z r ih =>
    intro h
    have h1 := rowC_len59 (h z List.mem_cons_self)
    have h2 := ih (fun x hx => h x (List.mem_cons_of_mem _ hx))
    unfold txtC at h2 ⊢
    rw [List.flatMap_cons, List.length_append, List.length_cons]
    omega
end Go.Proofs.YtpninpohligomaaGreatDoor
