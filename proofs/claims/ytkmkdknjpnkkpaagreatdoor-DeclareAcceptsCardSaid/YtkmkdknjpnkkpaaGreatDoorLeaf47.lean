/-
  Chapter 47: small functions.
-/
import Derived.Test.YtkmkdknjpnkkpaaGreatDoorRows
import Derived.Test.YtkmkdknjpnkkpaaGreatDoorSpec47
import Derived.Test.YtkmkdknjpnkkpaaGreatDoorBlk
import Derived.Test.YtkmkdknjpnkkpaaGreatDoorStr
import Derived.RegionTactic
set_option linter.unusedSimpArgs false
set_option linter.unusedVariables false
namespace Go.Proofs.YtkmkdknjpnkkpaaGreatDoor
open Go.RowKit
set_option maxRecDepth 100000
set_option maxHeartbeats 1000000

theorem ret_bool {a b : Bool} (h : a = b) : Ending.returned (.bool a) = .returned (.bool b) := by rw [h]
theorem ret_int {k : IntKind} {a b : Int} (h : a = b) : Ending.returned (.int k a) = .returned (.int k b) := by rw [h]
theorem ret_two {k k' : IntKind} {a b c d : Int} (h : a = c) (h' : b = d) : Ending.returned (.tuple #[.int k a, .int k' b]) = .returned (.tuple #[.int k c, .int k' d]) := by rw [h, h']

theorem nan_i (x : Int) (w : World) : Calls Tryz.prog 71 #[.int .i64 x] w fun e w' => e = .returned (.bool false) ∧ w = w' := by
  go_enter Tryz.func71, Tryz.ntmps71
  go_wp2
  go_ret
  exact ⟨by simp, rfl⟩
def cmpI (x y : Int) : Int := if x < y then -1 else if y < x then 1 else 0
theorem cmp_i (x y : Int) (w : World) : Calls Tryz.prog 57 #[.int .i64 x, .int .i64 y] w fun e w' => e = .returned (.int .i64 (cmpI x y)) ∧ w = w' := by
  obtain ⟨v, hv⟩ : ∃ v, cmpI x y = v := ⟨_, rfl⟩
  rw [hv]
  unfold cmpI at hv
  have HV := Lib.hid hv
  clear hv
  by_cases h1 : x < y
  all_goals by_cases h2 : y < x
  all_goals
    go_enter Tryz.func57, Tryz.ntmps57
    go_wp2_with (go_at_call 71; refine (nan_i _ _).mono ?_; rintro e w1 ⟨rfl, rfl⟩)
    go_ret
    (have e := HV.out; exact ⟨ret_int (by rw [← e]; split <;> (try split) <;> (first | rfl | omega)), rfl⟩)
def ordO (a b : Oc) : Int := if a.r ≠ b.r then cmpI a.r b.r else if a.k = b.k then 0 else if b.k then -1 else 1
theorem ordO_before (a b : Oc) : decide (0 ≤ ordO a b) = !before a b := by
  unfold ordO before cmpI
  obtain ⟨ar, ak, _⟩ := a
  obtain ⟨br, bk, _⟩ := b
  by_cases h : ar = br
  · subst h
    cases ak <;> cases bk <;> simp
  · rcases Int.lt_or_gt_of_ne h with h1 | h1
    · simp [h, h1]
    · have h2 : ¬ ar < br := by omega
      simp [h, h1, h2]
abbrev ocV (z : Oc) : Value := .agg #[.int .i64 z.r, .bool z.k, .int .i64 z.w]
theorem order_p (a b : Oc) (w : World) : Calls Tryz.prog 48 #[ocV a, ocV b] w fun e w' => e = .returned (.int .i64 (ordO a b)) ∧ Below w.heap.size w w' := by
  obtain ⟨v, hv⟩ : ∃ v, ordO a b = v := ⟨_, rfl⟩
  rw [hv]
  obtain ⟨ar, ak, aw⟩ := a
  obtain ⟨br, bk, bw⟩ := b
  unfold ordO at hv
  have HV := Lib.hid hv
  clear hv
  by_cases h : ar = br
  · subst h
    cases ak <;> cases bk
    all_goals
      go_enter Tryz.func48, Tryz.ntmps48
      go_wp2
      go_ret
      exact ⟨ret_int (by rw [← HV.out]; simp), cur_two _ _ _⟩
  · go_enter Tryz.func48, Tryz.ntmps48
    go_wp2_with (go_at_call 57; refine (cmp_i _ _ _).mono ?_; rintro e w1 ⟨rfl, rfl⟩)
    go_ret
    exact ⟨ret_int (by rw [← HV.out]; simp [h]), cur_two _ _ _⟩
theorem before_r (a b : Oc) (w : World) : Calls Tryz.prog 49 #[ocV a, ocV b] w fun e w' => e = .returned (.bool (before a b)) ∧ Below w.heap.size w w' := by
  obtain ⟨v, hv⟩ : ∃ v, before a b = v := ⟨_, rfl⟩
  rw [hv]
  obtain ⟨ar, ak, aw⟩ := a
  obtain ⟨br, bk, bw⟩ := b
  unfold before at hv
  have HV := Lib.hid hv
  clear hv
  by_cases h : ar = br
  · subst h
    cases ak <;> cases bk
    all_goals
      go_enter Tryz.func49, Tryz.ntmps49
      go_wp2
      go_ret
      exact ⟨ret_bool (by rw [← HV.out]; simp), cur_two _ _ _⟩
  · by_cases h1 : ar < br
    all_goals
      go_enter Tryz.func49, Tryz.ntmps49
      go_wp2
      go_ret
      exact ⟨ret_bool (by rw [← HV.out]; simp [h, h1]), cur_two _ _ _⟩
end Go.Proofs.YtkmkdknjpnkkpaaGreatDoor
