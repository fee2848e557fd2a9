/-
  Chapter 04: the small functions of the program and of the reference.
-/
import Derived.Test.YtcnjjkmfneeajaaDoorBase
import Derived.Test.YtcnjjkmfneeajaaDoorLib04
import Derived.Test.YtcnjjkmfneeajaaDoorOvP
import Derived.Deep.QuietTactic
import Derived.BigQuiet
namespace Go.Proofs.YtcnjjkmfneeajaaDoor
open Go.RowKit

theorem ret_bool {a b : Bool} (h : a = b) : Ending.returned (.bool a) = .returned (.bool b) := by rw [h]
theorem ret_int {k : IntKind} {a b : Int} (h : a = b) : Ending.returned (.int k a) = .returned (.int k b) := by rw [h]
theorem ret_two {a b c d : Int} {k1 k2 : IntKind} (h1 : a = b) (h2 : c = d) : Ending.returned (.tuple #[.int k1 a, .int k2 c]) = .returned (.tuple #[.int k1 b, .int k2 d]) := by rw [h1, h2]

set_option maxRecDepth 100000
set_option maxHeartbeats 1000000
def btwB (n lo hi : Int) : Bool := decide (lo ≤ n) && decide (n ≤ hi)
theorem between_p (n lo hi : Int) (v : Bool) (w : World) (hv : btwB n lo hi = v) : Calls Tryd.prog 27 #[.int .i64 n, .int .i64 lo, .int .i64 hi] w fun e w' => e = .returned (.bool v) ∧ w = w' := by
  have HV := Lib.hid hv
  clear hv
  go_enter Tryd.func27, Tryd.ntmps27
  go_wp2
  all_goals
    go_ret
    exact ⟨ret_bool (by rw [← HV.out]; simp [btwB] <;> omega), rfl⟩
theorem known_p (n : Int) (w : World) : Calls Tryd.prog 26 #[.int .i64 n] w fun e w' => e = .returned (.bool (knownB n)) ∧ w = w' := by
  go_enter Tryd.func26, Tryd.ntmps26
  go_wp2_with (go_at_call 27; refine (between_p _ _ _ _ _ rfl).mono ?_; rintro e w1 ⟨rfl, rfl⟩)
  go_ret
  exact ⟨ret_bool (by simp [btwB, knownB]), rfl⟩
theorem perOK_r (n : Int) (w : World) : Calls Tryd.prog 28 #[.int .i64 n] w fun e w' => e = .returned (.bool (knownB n)) ∧ w = w' := by
  obtain ⟨v, hv⟩ : ∃ v, knownB n = v := ⟨_, rfl⟩
  have HV := Lib.hid hv
  rw [hv]
  clear hv
  go_enter Tryd.func28, Tryd.ntmps28
  go_wp2
  all_goals
    go_ret
    exact ⟨ret_bool (by rw [← HV.out]; simp [knownB] <;> omega), rfl⟩
def usableB (runs balls : Int) : Bool := btwB runs 0 1000000 && btwB balls 1 1000000
theorem usable_p (x y : Int) (w : World) : Calls Tryd.prog 34 #[.int .i64 x, .int .i64 y] w fun e w' => e = .returned (.bool (usableB x y)) ∧ w = w' := by
  obtain ⟨v, hv⟩ : ∃ v, usableB x y = v := ⟨_, rfl⟩
  rw [hv]
  unfold usableB at hv
  cases h1 : btwB x 0 1000000 <;> cases h2 : btwB y 1 1000000
  all_goals
    have H1 := Lib.hid h1
    have H2 := Lib.hid h2
    rw [h1, h2] at hv
    have HV := Lib.hid hv
    clear h1 h2 hv
    go_enter Tryd.func34, Tryd.ntmps34
    go_wp2_with (go_at_call 27; refine (between_p _ _ _ _ _ rfl).mono ?_; rintro e w1 ⟨rfl, rfl⟩; first | rw [H1.out] | rw [H2.out])
    all_goals
      go_ret
      exact ⟨ret_bool (by rw [← HV.out] <;> rfl), rfl⟩
theorem rated_r (x y : Int) (w : World) : Calls Tryd.prog 36 #[.int .i64 x, .int .i64 y] w fun e w' => e = .returned (.bool (usableB x y)) ∧ w = w' := by
  obtain ⟨v, hv⟩ : ∃ v, usableB x y = v := ⟨_, rfl⟩
  have HV := Lib.hid hv
  rw [hv]
  clear hv
  go_enter Tryd.func36, Tryd.ntmps36
  go_wp2
  all_goals
    go_ret
    exact ⟨ret_bool (by rw [← HV.out, Bool.eq_iff_iff]; simp only [usableB, btwB, Bool.and_eq_true, decide_eq_true_eq, beq_iff_eq, Bool.false_eq_true, true_iff, false_iff] <;> omega), rfl⟩
theorem ofP_rng {balls per : Int} (hk : knownB per = true) (hb : numberB balls = true) : 1 ≤ per ∧ per ≤ 8 ∧ 0 ≤ balls ∧ balls ≤ 1000000 ∧ 0 ≤ balls / per ∧ balls / per ≤ 1000000 ∧ 0 ≤ balls % per ∧ balls % per < per := by
  unfold knownB at hk
  unfold numberB at hb
  simp only [Bool.and_eq_true, decide_eq_true_eq] at hk hb
  exact ⟨hk.1, hk.2, hb.1, hb.2, Int.ediv_nonneg hb.1 (by omega), Int.le_trans (Int.ediv_le_self _ hb.1) hb.2, Int.emod_nonneg balls (show per ≠ 0 by omega), Int.emod_lt_of_pos balls (show 0 < per by omega)⟩
theorem btw_num (n : Int) : btwB n 0 1000000 = numberB n := rfl
theorem below_n {w : World} (n : Nat) : Below w.heap.size w (w.drewN n) := ⟨rfl, rfl, rfl, Nat.le_refl _, fun _ _ => rfl⟩
theorem of_p (balls per : Int) (w : World) : Calls Tryd.prog 11 #[.int .i64 balls, .int .i64 per] w fun e w' => e = .returned (.tuple #[.int .i64 (ofP balls per).1, .int .i64 (ofP balls per).2]) ∧ Below w.heap.size w w' := by
  obtain ⟨x, y, hv⟩ : ∃ x y, ofP balls per = (x, y) := ⟨_, _, rfl⟩
  rw [hv]
  cases h1 : knownB per <;> cases h2 : numberB balls
  all_goals
    have H1 := Lib.hid h1
    have H2 := Lib.hid h2
    have hof : (if knownB per && numberB balls then (balls / per, balls % per) else (0, 0)) = (x, y) := hv
    rw [h1, h2] at hof
    have HOF := Lib.hid hof
  rotate_right
  · obtain ⟨r1, r2, r3, r4, r5, r6, r7, r8⟩ := ofP_rng h1 h2
    have d1 : Int.tdiv balls per = balls / per := Int.tdiv_eq_ediv_of_nonneg r3
    have d2 : Int.tmod balls per = balls % per := Int.tmod_eq_emod_of_nonneg r3
    clear h1 h2 hof hv
    have hne : per ≠ 0 := by omega
    go_enter Tryd.func11, Tryd.ntmps11
    go_wp2_with (first
      | (go_at_call 26; refine (known_p _ _).mono ?_; rintro e w1 ⟨rfl, rfl⟩; rw [H1.out])
      | (go_at_call 27; refine (between_p _ _ _ _ _ rfl).mono ?_; rintro e w1 ⟨rfl, rfl⟩; rw [btw_num, H2.out]))
    go_quiet (fail)
    go_wp2
    go_ret2
    exact ⟨ret_two (congrArg Prod.fst HOF.out) (congrArg Prod.snd HOF.out), below_n _⟩
  all_goals
    clear h1 h2 hof hv
    go_enter Tryd.func11, Tryd.ntmps11
    go_wp2_with (first
      | (go_at_call 26; refine (known_p _ _).mono ?_; rintro e w1 ⟨rfl, rfl⟩; rw [H1.out])
      | (go_at_call 27; refine (between_p _ _ _ _ _ rfl).mono ?_; rintro e w1 ⟨rfl, rfl⟩; rw [btw_num, H2.out]))
    all_goals go_ret2
    exact ⟨ret_two (congrArg Prod.fst HOF.out) (congrArg Prod.snd HOF.out), Below.refl _ _⟩
theorem of_r (balls per : Int) (w : World) : Calls Tryd.prog 12 #[.int .i64 balls, .int .i64 per] w fun e w' => e = .returned (.tuple #[.int .i64 (ofP balls per).1, .int .i64 (ofP balls per).2]) ∧ Below w.heap.size w w' := by
  obtain ⟨x, y, hv⟩ : ∃ x y, ofP balls per = (x, y) := ⟨_, _, rfl⟩
  rw [hv]
  cases h1 : knownB per
  · have H1 := Lib.hid h1
    have hof : (if knownB per && numberB balls then (balls / per, balls % per) else (0, 0)) = (x, y) := hv
    rw [h1] at hof
    have HOF := Lib.hid hof
    clear h1 hof hv
    go_enter Tryd.func12, Tryd.ntmps12
    go_wp2_with (go_at_call 28; refine (perOK_r _ _).mono ?_; rintro e w1 ⟨rfl, rfl⟩; rw [H1.out])
    go_ret2
    exact ⟨ret_two (congrArg Prod.fst HOF.out) (congrArg Prod.snd HOF.out), Below.refl _ _⟩
  have H1 := Lib.hid h1
  have hof : (if knownB per && numberB balls then (balls / per, balls % per) else (0, 0)) = (x, y) := hv
  by_cases b1 : balls < 0
  · rw [show numberB balls = false by unfold numberB; simp; omega, Bool.and_false] at hof
    have HOF := Lib.hid hof
    clear h1 hof hv
    go_enter Tryd.func12, Tryd.ntmps12
    go_wp2_with (go_at_call 28; refine (perOK_r _ _).mono ?_; rintro e w1 ⟨rfl, rfl⟩; rw [H1.out])
    go_ret2
    exact ⟨ret_two (congrArg Prod.fst HOF.out) (congrArg Prod.snd HOF.out), Below.refl _ _⟩
  by_cases b2 : 1000000 < balls
  · rw [show numberB balls = false by unfold numberB; simp; omega, Bool.and_false] at hof
    have HOF := Lib.hid hof
    clear h1 hof hv
    go_enter Tryd.func12, Tryd.ntmps12
    go_wp2_with (go_at_call 28; refine (perOK_r _ _).mono ?_; rintro e w1 ⟨rfl, rfl⟩; rw [H1.out])
    go_ret2
    exact ⟨ret_two (congrArg Prod.fst HOF.out) (congrArg Prod.snd HOF.out), Below.refl _ _⟩
  have h2 : numberB balls = true := by unfold numberB; simp; omega
  rw [h1, h2] at hof
  have HOF := Lib.hid hof
  obtain ⟨r1, r2, r3, r4, r5, r6, r7, r8⟩ := ofP_rng h1 h2
  have d1 : Int.tdiv balls per = balls / per := Int.tdiv_eq_ediv_of_nonneg r3
  have d2 : Int.tmod balls per = balls % per := Int.tmod_eq_emod_of_nonneg r3
  clear h1 h2 hof hv
  have hne : per ≠ 0 := by omega
  go_enter Tryd.func12, Tryd.ntmps12
  go_wp2_with (go_at_call 28; refine (perOK_r _ _).mono ?_; rintro e w1 ⟨rfl, rfl⟩; rw [H1.out])
  go_quiet (fail)
  go_wp2
  go_ret2
  exact ⟨ret_two (congrArg Prod.fst HOF.out) (congrArg Prod.snd HOF.out), below_n _⟩

theorem balls_p (over rest per : Int) (w : World) : Calls Tryd.prog 19 #[.int .i64 over, .int .i64 rest, .int .i64 per] w fun e w' => e = .returned (.tuple #[.int .i64 (ballsP over rest per).1, .int .i64 (ballsP over rest per).2]) ∧ Below w.heap.size w w' := by
  obtain ⟨x, y, hv⟩ : ∃ x y, ballsP over rest per = (x, y) := ⟨_, _, rfl⟩
  rw [hv]
  cases h1 : knownB per <;> cases h2 : btwB over 0 100000 <;> cases h3 : btwB rest 0 (per - 1)
  all_goals
    have H1 := Lib.hid h1
    have H2 := Lib.hid h2
    have H3 := Lib.hid h3
    have hof : (if knownB per && (decide (0 ≤ over) && decide (over ≤ 100000)) && (decide (0 ≤ rest) && decide (rest < per)) then (over * per + rest, 0) else (0, 2)) = (x, y) := hv
    rw [h1, show (decide (0 ≤ over) && decide (over ≤ 100000)) = btwB over 0 100000 from rfl, h2, show (decide (0 ≤ rest) && decide (rest < per)) = btwB rest 0 (per - 1) from by unfold btwB; congr 1; rw [decide_eq_decide]; omega, h3] at hof
    have HOF := Lib.hid hof
  rotate_right
  · unfold knownB at h1
    unfold btwB at h2 h3
    simp only [Bool.and_eq_true, decide_eq_true_eq] at h1 h2 h3
    obtain ⟨c1, c2⟩ := h1
    obtain ⟨c3, c4⟩ := h2
    obtain ⟨c5, c6⟩ := h3
    have m1 : 0 ≤ over * per := Int.mul_nonneg c3 (by omega)
    have m2 : over * per ≤ 100000 * 8 := Int.mul_le_mul c4 c2 (by omega) (by omega)
    clear hof hv
    go_enter Tryd.func19, Tryd.ntmps19
    go_wp2_with (first
      | (go_at_call 26; refine (known_p _ _).mono ?_; rintro e w1 ⟨rfl, rfl⟩; rw [H1.out])
      | (go_at_call 27; refine (between_p _ _ _ _ _ rfl).mono ?_; rintro e w1 ⟨rfl, rfl⟩; first | rw [H2.out] | rw [H3.out]))
    try go_quiet (fail)
    go_wp2
    go_ret2
    exact ⟨ret_two (congrArg Prod.fst HOF.out) (congrArg Prod.snd HOF.out), by first | exact Below.refl _ _ | exact below_n _⟩
  all_goals
    try (have hpr : 1 ≤ per ∧ per ≤ 8 := (by unfold knownB at h1; simpa using h1); obtain ⟨hp1, hp2⟩ := hpr)
    clear h1 h2 h3 hof hv
    go_enter Tryd.func19, Tryd.ntmps19
    go_wp2_with (first
      | (go_at_call 26; refine (known_p _ _).mono ?_; rintro e w1 ⟨rfl, rfl⟩; rw [H1.out])
      | (go_at_call 27; refine (between_p _ _ _ _ _ rfl).mono ?_; rintro e w1 ⟨rfl, rfl⟩; first | rw [H2.out] | rw [H3.out]))
    all_goals go_ret2
    exact ⟨ret_two (congrArg Prod.fst HOF.out) (congrArg Prod.snd HOF.out), Below.refl _ _⟩
end Go.Proofs.YtcnjjkmfneeajaaDoor
