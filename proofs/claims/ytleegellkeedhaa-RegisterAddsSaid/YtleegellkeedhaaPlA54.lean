/-
  Chapter 54: plain laws of the loop of Add of the reference.
-/
import Derived.Test.YtleegellkeedhaaPlS54
namespace Go.Proofs.Ytleegellkeedhaa
open Go.RowKit
theorem gt_ref (t x : Tr) : gtT t x = (decide (t.d < x.d) || (decide (x.d = t.d) && slt t.p x.p)) := by
  unfold gtT ordI cmpI cmpS
  by_cases h1 : x.d < t.d
  · have e1 : decide (t.d < x.d) = false := decide_eq_false (by omega)
    have e2 : decide (x.d = t.d) = false := decide_eq_false (by omega)
    simp [h1, e1, e2]
  · by_cases h2 : t.d < x.d
    · simp [h1, h2]
    · have e2 : decide (x.d = t.d) = true := decide_eq_true (by omega)
      simp only [h1, h2, e2]
      cases h3 : slt x.p t.p
      · cases h4 : seq x.p t.p
        · have h5 : slt t.p x.p = true := less_total _ _ h3 (fun e => by
            have : seq x.p t.p = true := by unfold seq; rw [e]; simp
            rw [h4] at this
            cases this)
          simp [h5]
        · have h5 : slt t.p x.p = false := by rw [seq_eq] at h4; rw [h4]; exact less_irrefl _
          simp [h5]
      · have h5 : slt t.p x.p = false := less_asymm _ _ h3
        simp [h5]
theorem findI_spec (f : Tr → Bool) : ∀ (l : List Tr) (k : Nat), (findI f l k = -1 ∧ ∀ (j : Nat) (x : Tr), l[j]? = some x → f x = false) ∨ (∃ j x, l[j]? = some x ∧ findI f l k = ((k + j : Nat) : Int) ∧ f x = true ∧ ∀ (i : Nat) (y : Tr), i < j → l[i]? = some y → f y = false)
  | [], _ => .inl ⟨rfl, fun j x h => by simp at h⟩
  | z :: zs, k => by
    unfold findI
    cases hz : f z
    · rcases findI_spec f zs (k + 1) with ⟨h1, h2⟩ | ⟨j, x, h1, h2, h3, h4⟩
      · refine .inl ⟨by simpa using h1, fun j x h => ?_⟩
        cases j with
        | zero => simp at h; subst h; exact hz
        | succ j => exact h2 j x (by simpa using h)
      · refine .inr ⟨j + 1, x, by simpa using h1, by simp [h2]; omega, h3, fun i y hi h => ?_⟩
        cases i with
        | zero => simp at h; subst h; exact hz
        | succ i => exact h4 i y (by omega) (by simpa using h)
    · exact .inr ⟨0, z, rfl, by simp, hz, fun i y hi => by omega⟩
theorem posA_spec (l : List Tr) (t : Tr) : (∀ (j : Nat) (x : Tr), j < posA l t → l[j]? = some x → gtT t x = false) ∧ (∀ x : Tr, l[posA l t]? = some x → gtT t x = true) := by
  rcases findI_spec (gtT t) l 0 with ⟨h1, h2⟩ | ⟨j, x, h1, h2, h3, h4⟩
  · refine ⟨fun j x _ h => h2 j x h, fun x h => ?_⟩
    have : posA l t = l.length := by unfold posA; rw [h1, if_pos (by omega)]
    rw [this] at h
    simp at h
  · have hp : posA l t = j := by unfold posA; rw [h2, if_neg (by omega)]; omega
    rw [hp]
    exact ⟨fun i y hi h => h4 i y hi h, fun y h => by rw [h1] at h; injection h with h; subst h; exact h3⟩
def Lp (l : List Tr) (t : Tr) (k : Nat) : List Tr := if posA l t < k then (insA l t).take (k + 1) else l.take k
theorem Lp_zero (l : List Tr) (t : Tr) : Lp l t 0 = [] := by unfold Lp; rw [if_neg (by omega)]; rfl
theorem Lp_len (l : List Tr) (t : Tr) (k : Nat) (hk : k ≤ l.length) : (Lp l t k).length ≤ l.length + 1 := by
  unfold Lp
  split <;> simp <;> omega
theorem insA_len (l : List Tr) (t : Tr) : (insA l t).length = l.length + 1 := by
  have := posA_le l t
  unfold insA
  simp
  omega
theorem insA_next {l : List Tr} {t x : Tr} {k : Nat} (h : posA l t ≤ k) (hx : l[k]? = some x) : (insA l t)[k + 1]? = some x := by
  obtain ⟨n, rfl⟩ : ∃ n, k = posA l t + n := ⟨k - posA l t, by omega⟩
  rw [insA_after, List.getElem?_drop]
  exact hx
theorem Lp_before {l : List Tr} {t x : Tr} {k : Nat} (h : k < posA l t) (hx : l[k]? = some x) : Lp l t (k + 1) = Lp l t k ++ [x] := by
  unfold Lp
  rw [if_neg (by omega), if_neg (by omega), List.take_add_one, hx]
  rfl
theorem Lp_at {l : List Tr} {t x : Tr} {k : Nat} (h : posA l t = k) (hx : l[k]? = some x) : Lp l t (k + 1) = (Lp l t k ++ [t]) ++ [x] := by
  have h2 := insA_next (t := t) (Nat.le_of_eq h) hx
  have h3 := insA_at l t
  rw [h] at h3
  unfold Lp
  rw [if_pos (by omega), if_neg (by omega), List.take_add_one, h2, List.take_add_one, h3]
  have h4 : (insA l t).take k = l.take k := by
    unfold insA
    rw [h, List.take_append_of_le_length (by simp; have := posA_le l t; omega), List.take_take, Nat.min_self]
  rw [h4]
  rfl
theorem Lp_after {l : List Tr} {t x : Tr} {k : Nat} (h : posA l t < k) (hx : l[k]? = some x) : Lp l t (k + 1) = Lp l t k ++ [x] := by
  have h2 := insA_next (t := t) (Nat.le_of_lt h) hx
  unfold Lp
  rw [if_pos (by omega), if_pos h, List.take_add_one, h2]
  rfl
theorem Lp_end {l : List Tr} {t : Tr} (h : posA l t < l.length) : Lp l t l.length = insA l t := by
  unfold Lp
  rw [if_pos h, List.take_of_length_le (by rw [insA_len]; omega)]
theorem Lp_endn {l : List Tr} {t : Tr} (h : ¬ posA l t < l.length) : Lp l t l.length ++ [t] = insA l t := by
  have := posA_le l t
  have hp : posA l t = l.length := by omega
  unfold Lp
  rw [if_neg h, List.take_length]
  unfold insA
  rw [hp, List.take_length, List.drop_length]
theorem find_none {l : List Tr} {t : Tr} (h : ∀ (j : Nat) (x : Tr), j < l.length → l[j]? = some x → eqPD t x = false) : decide (0 ≤ findI (eqPD t) l 0) = false := by
  rcases findI_spec (eqPD t) l 0 with ⟨h1, _⟩ | ⟨j, x, h1, h2, h3, _⟩
  · rw [h1]; rfl
  · have := h j x (List.getElem?_eq_some_iff.1 h1).1 h1
    rw [h3] at this
    cases this
theorem find_some {l : List Tr} {t x : Tr} {k : Nat} (hx : l[k]? = some x) (he : eqPD t x = true) : decide (0 ≤ findI (eqPD t) l 0) = true := by
  rcases findI_spec (eqPD t) l 0 with ⟨_, h2⟩ | ⟨j, y, _, h2, _, _⟩
  · rw [h2 k x hx] at he
    cases he
  · rw [h2]
    exact decide_eq_true (by omega)
end Go.Proofs.Ytleegellkeedhaa
