/-
  Chapter 50 in plain Lean: Accept.
-/
import Derived.Test.YtnbhplhhemkniaaSpec50
namespace Go.Proofs.Ytnbhplhhemkniaa

def accS (first : Int) (caps : List Int) : List Int → List (Jb × Int) → Int
  | _, [] => 0
  | pre, (j, d) :: r => if d < j.f ∨ j.t < d then 15 else if caps.getD (d - first).toNat 0 ≤ ((pre.count d : Nat) : Int) then 9 else accS first caps (pre ++ [d]) r
def accT (js : List Jb) (first : Int) (caps : List Int) (days : List Int) : Int :=
  if ckT js first caps ≠ 0 then ckT js first caps else if days.length ≠ js.length then 1 else accS first caps [] (js.zip days)
theorem acc_drop {first : Int} {caps : List Int} {js : List Jb} {days : List Int} {k : Nat} {j : Jb} {d : Int} (hj : js[k]? = some j) (hd : days[k]? = some d) :
    accS first caps (days.take k) ((js.zip days).drop k) = if d < j.f ∨ j.t < d then 15 else if caps.getD (d - first).toNat 0 ≤ (((days.take k).count d : Nat) : Int) then 9 else accS first caps (days.take (k + 1)) ((js.zip days).drop (k + 1)) := by
  have hz : (js.zip days)[k]? = some (j, d) := by rw [List.getElem?_zip_eq_some]; exact ⟨hj, hd⟩
  have hk := List.getElem?_eq_some_iff.1 hz
  rw [List.drop_eq_getElem_cons hk.1, hk.2, List.take_add_one, hd]
  rfl
/-- How often each day of the window is among the days so far. -/
def cntL (first : Int) (m : Nat) (pre : List Int) : List Int := (List.range m).map fun (t : Nat) => ((pre.count (first + (t : Int)) : Nat) : Int)
theorem cntL_nil (first : Int) (m : Nat) : cntL first m [] = List.replicate m 0 := by
  unfold cntL
  apply List.ext_getElem
  · simp
  · intro i h1 h2; simp
theorem cntL_at {first : Int} {m : Nat} {pre : List Int} {q : Nat} (h : q < m) : (cntL first m pre)[q]? = some ((pre.count (first + (q : Int)) : Nat) : Int) := by
  unfold cntL
  rw [List.getElem?_map, List.getElem?_range h]
  rfl
theorem cntL_set {first : Int} {m : Nat} {pre : List Int} {q : Nat} (h : q < m) : (cntL first m pre).set q (((pre.count (first + (q : Int)) : Nat) : Int) + 1) = cntL first m (pre ++ [first + (q : Int)]) := by
  apply List.ext_getElem?
  intro i
  by_cases hi : i < m
  · rw [List.getElem?_set, cntL_at hi, cntL_at hi]
    by_cases hq : q = i
    · subst hq
      have hl : q < (cntL first m pre).length := by unfold cntL; simpa using h
      rw [if_pos rfl, if_pos hl, List.count_append, List.count_singleton]
      simp
    · rw [if_neg hq, List.count_append, List.count_singleton, if_neg (by simp; omega)]
      simp
  · have h1 : ∀ pre, (cntL first m pre)[i]? = none := fun pre => by unfold cntL; rw [List.getElem?_eq_none]; simp; omega
    rw [List.getElem?_eq_none (by rw [List.length_set]; unfold cntL; simp; omega), h1]
theorem count_take {days : List Int} {q : Nat} {x d : Int} (h : days[q]? = some x) : (days.take (q + 1)).count d = (days.take q).count d + if x = d then 1 else 0 := by
  rw [List.take_add_one, h, Option.toList_some, List.count_append, List.count_singleton]
  by_cases hx : x = d <;> simp [hx]
end Go.Proofs.Ytnbhplhhemkniaa
