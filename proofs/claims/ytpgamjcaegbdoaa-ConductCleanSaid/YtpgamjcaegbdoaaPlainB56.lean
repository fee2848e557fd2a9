/-
  Chapter 56: the plain laws of the greatest points and of the first day.
-/
import Derived.Test.YtpgamjcaegbdoaaPlain56
namespace Go.Proofs.Ytpgamjcaegbdoaa
open Go.RowKit

/-- The greatest number of points at the days of a player's entries in L, counted in l. -/
def mostL (l : List Of) (p : ByteArray) (L : List Of) : Int := L.foldl (fun m z => if seq z.p p then max m (ptsL p z.d l) else m) 0
theorem mostL_snoc (l : List Of) (p : ByteArray) (L : List Of) (z : Of) : mostL l p (L ++ [z]) = if seq z.p p then max (mostL l p L) (ptsL p z.d l) else mostL l p L := by
  unfold mostL
  rw [List.foldl_append]
  rfl
theorem most_le (l : List Of) (p : ByteArray) : ∀ (L : List Of) (m : Int), m ≤ L.foldl (fun m z => if seq z.p p then max m (ptsL p z.d l) else m) m
  | [], m => Int.le_refl _
  | z :: L, m => by
    simp only [List.foldl_cons]
    refine Int.le_trans ?_ (most_le l p L _)
    split
    · exact Int.le_max_left _ _
    · exact Int.le_refl _
theorem most_ge (l : List Of) (p : ByteArray) : ∀ (L : List Of) (m : Int) (z : Of), z ∈ L → seq z.p p = true → ptsL p z.d l ≤ L.foldl (fun m z => if seq z.p p then max m (ptsL p z.d l) else m) m
  | [], _, _, h, _ => by cases h
  | y :: L, m, z, h, hs => by
    simp only [List.foldl_cons]
    rcases List.mem_cons.1 h with rfl | h
    · rw [if_pos hs]
      exact Int.le_trans (Int.le_max_right _ _) (most_le l p L _)
    · exact most_ge l p L _ z h hs
theorem most_bd (l : List Of) (p : ByteArray) (hb : ∀ d, ptsL p d l ≤ 16000) : ∀ (L : List Of) (m : Int), m ≤ 16000 → L.foldl (fun m z => if seq z.p p then max m (ptsL p z.d l) else m) m ≤ 16000
  | [], m, h => h
  | z :: L, m, h => by
    simp only [List.foldl_cons]
    refine most_bd l p hb L _ ?_
    split
    · exact Int.max_le.2 ⟨h, hb _⟩
    · exact h
theorem firstO_neg {p : ByteArray} : ∀ {L : List Of}, (∀ z ∈ L, 0 ≤ z.d) → -1 ≤ firstO p L
  | [], _ => Int.le_refl _
  | z :: L, h => by
    unfold firstO
    split
    · have := h z (List.mem_cons_self ..); omega
    · exact firstO_neg fun y hy => h y (List.mem_cons_of_mem _ hy)
theorem firstO_le {p : ByteArray} : ∀ {L : List Of}, (∀ z ∈ L, z.d ≤ 1000000) → firstO p L ≤ 1000000
  | [], _ => by unfold firstO; omega
  | z :: L, h => by
    unfold firstO
    split
    · exact h z (List.mem_cons_self ..)
    · exact firstO_le fun y hy => h y (List.mem_cons_of_mem _ hy)
theorem firstO_snoc {p : ByteArray} {z : Of} : ∀ {L : List Of}, (∀ y ∈ L, 0 ≤ y.d) → firstO p (L ++ [z]) = if seq z.p p then (if firstO p L < 0 then z.d else firstO p L) else firstO p L
  | [], _ => by
    simp only [List.nil_append, firstO]
    by_cases h : seq z.p p = true <;> simp [h]
  | y :: L, h => by
    by_cases hy : seq y.p p = true
    · have e1 : ∀ T, firstO p (y :: T) = y.d := fun T => by simp [firstO, hy]
      rw [List.cons_append, e1, e1]
      have := h y (List.mem_cons_self ..)
      rw [if_neg (show ¬ y.d < 0 by omega)]
      simp
    · have e1 : ∀ T, firstO p (y :: T) = firstO p T := fun T => by simp [firstO, hy]
      rw [List.cons_append, e1, e1]
      exact firstO_snoc fun w hw => h w (List.mem_cons_of_mem _ hw)
end Go.Proofs.Ytpgamjcaegbdoaa
