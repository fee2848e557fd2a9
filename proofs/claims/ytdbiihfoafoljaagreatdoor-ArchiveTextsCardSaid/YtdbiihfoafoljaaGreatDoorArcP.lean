/-
  Chapter 58: entries of match files; the first error of a file. Plain.
-/
import Derived.Test.YtdbiihfoafoljaaGreatDoorEvQ
set_option linter.unusedSimpArgs false
set_option linter.unusedVariables false
namespace Go.Proofs.YtdbiihfoafoljaaGreatDoor
open Go.RowKit
structure Ent where
  id : Int
  ev : Ev
  sc : ByteArray
  deriving DecidableEq
def entE (x : Ent) : List Value := [.int .i64 x.id] ++ evE x.ev ++ [.string x.sc]
theorem entE_len (x : Ent) : (entE x).length = 21 := rfl
theorem entE_id (x : Ent) : (entE x)[0]? = some (.int .i64 x.id) := rfl
theorem entE_sc (x : Ent) : (entE x)[20]? = some (.string x.sc) := rfl
theorem entE_ev (x : Ent) {j : Nat} {v : Value} (h : (evE x.ev)[j]? = some v) : (entE x)[1 + j]? = some v := by
  have hj : j < 19 := by have := (List.getElem?_eq_some_iff.1 h).1; rw [evE_len] at this; exact this
  have : entE x = [.int .i64 x.id] ++ (evE x.ev ++ [.string x.sc]) := by simp [entE]
  rw [this, List.getElem?_append_right (by simp), List.getElem?_append_left (by rw [evE_len]; simp; omega)]
  simpa using h
theorem ent_one (x : Ent) : (entE x).toArray.all (·.oneCell') = true := by simp [entE, evE, delE, Value.oneCell']
theorem ent_one' (x : Ent) : ∀ u ∈ entE x, u.oneCell' = true := by
  have := ent_one x
  intro u hu
  rw [Array.all_eq_true] at this
  obtain ⟨i, hi, rfl⟩ := List.getElem_of_mem hu
  exact this i hi
def leqO (p : Option Ent) (x : Ent) : Bool := match p with
  | some y => decide (x.id ≤ y.id)
  | none => false
def aErr (p : Option Ent) (x : Ent) : Int := if x.id < 1 ∨ 1099511627776 < x.id then 2 else if leqO p x = true then 8 else if nameB x.sc = false then 5 else chkE x.ev
def aScan : Option Ent → List Ent → Int
  | _, [] => 0
  | p, x :: r => if aErr p x ≠ 0 then aErr p x else aScan (some x) r
def chkA (f : List Ent) : Int := if 4000 < f.length then 9 else aScan none f
def preA (f : List Ent) (k : Nat) : Option Ent := if k = 0 then none else f[k - 1]?
theorem preA_next {f : List Ent} {k : Nat} {x : Ent} (h : f[k]? = some x) : preA f (k + 1) = some x := by simp [preA, h]
theorem aScan_at {f : List Ent} {k : Nat} {x : Ent} (h : f[k]? = some x) : aScan (preA f k) (f.drop k) = if aErr (preA f k) x ≠ 0 then aErr (preA f k) x else aScan (preA f (k + 1)) (f.drop (k + 1)) := by
  have hk := (List.getElem?_eq_some_iff.1 h).1
  have hd : f.drop k = x :: f.drop (k + 1) := by rw [List.drop_eq_getElem_cons hk]; congr 1; exact Option.some.inj ((List.getElem?_eq_getElem hk).symm.trans h)
  rw [hd, preA_next h]
  rfl
/-- What an accepted file says. -/
theorem aScan_ok : ∀ {f : List Ent} {p : Option Ent}, aScan p f = 0 → (∀ x ∈ f, 1 ≤ x.id ∧ x.id ≤ 1099511627776 ∧ nameB x.sc = true ∧ chkE x.ev = 0) ∧ (f.map (·.id)).Pairwise (· < ·) ∧ (∀ y, p = some y → ∀ x ∈ f, y.id < x.id) := by
  intro f
  induction f with
  | nil => intro p _; simp
  | cons x r ih =>
    intro p h
    unfold aScan at h
    by_cases h0 : aErr p x = 0
    · rw [if_neg (by simpa using h0)] at h
      obtain ⟨h1, h2, h3⟩ := ih h
      unfold aErr at h0
      split at h0
      · cases h0
      split at h0
      · cases h0
      split at h0
      · cases h0
      rename_i g1 g2 g3
      have hx := h3 x rfl
      refine ⟨?_, ?_, ?_⟩
      · intro y hy
        rcases List.mem_cons.1 hy with rfl | hy
        · exact ⟨by omega, by omega, by simpa using g3, h0⟩
        · exact h1 y hy
      · rw [List.map_cons, List.pairwise_cons]
        refine ⟨fun i hi => ?_, h2⟩
        obtain ⟨y, hy, rfl⟩ := List.mem_map.1 hi
        exact hx y hy
      · intro y hy z hz
        subst hy
        simp [leqO] at g2
        rcases List.mem_cons.1 hz with rfl | hz
        · exact g2
        · exact Int.lt_trans g2 (hx z hz)
    · rw [if_pos h0] at h
      exact absurd h h0
theorem aScan_of : ∀ {f : List Ent} {p : Option Ent}, (∀ x ∈ f, 1 ≤ x.id ∧ x.id ≤ 1099511627776 ∧ nameB x.sc = true ∧ chkE x.ev = 0) → (f.map (·.id)).Pairwise (· < ·) → (∀ y, p = some y → ∀ x ∈ f, y.id < x.id) → aScan p f = 0 := by
  intro f
  induction f with
  | nil => intro p _ _ _; rfl
  | cons x r ih =>
    intro p h1 h2 h3
    obtain ⟨a1, a2, a3, a4⟩ := h1 x (by simp)
    have h0 : aErr p x = 0 := by
      unfold aErr
      rw [if_neg (by omega), if_neg, if_neg (by simp [a3]), a4]
      cases p with
      | none => simp [leqO]
      | some y => have := h3 y rfl x (by simp); simp [leqO]; omega
    unfold aScan
    rw [if_neg (by simpa using h0)]
    rw [List.map_cons, List.pairwise_cons] at h2
    refine ih (fun y hy => h1 y (by simp [hy])) h2.2 ?_
    intro y hy z hz
    injection hy with hy
    subst hy
    exact h2.1 _ (List.mem_map_of_mem hz)
end Go.Proofs.YtdbiihfoafoljaaGreatDoor
