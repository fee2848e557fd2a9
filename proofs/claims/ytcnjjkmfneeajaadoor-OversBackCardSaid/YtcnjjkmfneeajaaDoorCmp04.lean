/-
  Chapter 04: Balls of the reference, Compare, Needed.
-/
import Derived.Test.YtcnjjkmfneeajaaDoorLeaf04
namespace Go.Proofs.YtcnjjkmfneeajaaDoor
open Go.RowKit
set_option maxRecDepth 100000
set_option maxHeartbeats 1000000

theorem balls_r (over rest per : Int) (w : World) : Calls Tryd.prog 20 #[.int .i64 over, .int .i64 rest, .int .i64 per] w fun e w' => e = .returned (.tuple #[.int .i64 (ballsP over rest per).1, .int .i64 (ballsP over rest per).2]) ∧ Below w.heap.size w w' := by
  obtain ⟨x, y, hv⟩ : ∃ x y, ballsP over rest per = (x, y) := ⟨_, _, rfl⟩
  rw [hv]
  have hof : (if knownB per && (decide (0 ≤ over) && decide (over ≤ 100000)) && (decide (0 ≤ rest) && decide (rest < per)) then (over * per + rest, 0) else (0, 2)) = (x, y) := hv
  cases h1 : knownB per
  · have H1 := Lib.hid h1
    rw [h1] at hof
    have HOF := Lib.hid hof
    clear h1 hof hv
    go_enter Tryd.func20, Tryd.ntmps20
    go_wp2_with (go_at_call 28; refine (perOK_r _ _).mono ?_; rintro e w1 ⟨rfl, rfl⟩; rw [H1.out])
    go_ret2
    exact ⟨ret_two (congrArg Prod.fst HOF.out) (congrArg Prod.snd HOF.out), Below.refl _ _⟩
  have H1 := Lib.hid h1
  have hpr : 1 ≤ per ∧ per ≤ 8 := by unfold knownB at h1; simpa using h1
  obtain ⟨hp1, hp2⟩ := hpr
  by_cases ha : 0 ≤ over ∧ over ≤ 100000 ∧ 0 ≤ rest ∧ rest < per
  · obtain ⟨c3, c4, c5, c6⟩ := ha
    have m1 : 0 ≤ over * per := Int.mul_nonneg c3 (by omega)
    have m2 : over * per ≤ 100000 * 8 := Int.mul_le_mul c4 hp2 (by omega) (by omega)
    rw [h1, show (decide (0 ≤ over) && decide (over ≤ 100000)) = true by simp; omega, show (decide (0 ≤ rest) && decide (rest < per)) = true by simp; omega] at hof
    have HOF := Lib.hid hof
    clear h1 hof hv
    go_enter Tryd.func20, Tryd.ntmps20
    go_wp2_with (go_at_call 28; refine (perOK_r _ _).mono ?_; rintro e w1 ⟨rfl, rfl⟩; rw [H1.out])
    go_ret2
    exact ⟨ret_two (congrArg Prod.fst HOF.out) (congrArg Prod.snd HOF.out), Below.refl _ _⟩
  · rw [if_neg (by simp; omega)] at hof
    have HOF := Lib.hid hof
    have HA := Lib.hid ha
    clear h1 hof hv ha
    go_enter Tryd.func20, Tryd.ntmps20
    go_wp2_with (go_at_call 28; refine (perOK_r _ _).mono ?_; rintro e w1 ⟨rfl, rfl⟩; rw [H1.out])
    all_goals first
      | (exfalso; have := HA.out; omega)
      | (go_ret2; exact ⟨ret_two (congrArg Prod.fst HOF.out) (congrArg Prod.snd HOF.out), Below.refl _ _⟩)

theorem nan_i (n : Int) (w : World) : Calls Tryd.prog 46 #[.int .i64 n] w fun e w' => e = .returned (.bool false) ∧ w = w' := by
  go_enter Tryd.func46, Tryd.ntmps46
  go_wp2
  go_ret
  exact ⟨ret_bool (by simp), rfl⟩
def cmpI (x y : Int) : Int := if x < y then -1 else if y < x then 1 else 0
theorem comp_i (x y : Int) (w : World) : Calls Tryd.prog 35 #[.int .i64 x, .int .i64 y] w fun e w' => e = .returned (.int .i64 (cmpI x y)) ∧ w = w' := by
  obtain ⟨r, hr⟩ : ∃ r, cmpI x y = r := ⟨_, rfl⟩
  have HR := Lib.hid hr
  rw [hr]
  clear hr
  go_enter Tryd.func35, Tryd.ntmps35
  go_wp2_with (go_at_call 46; refine (nan_i _ _).mono ?_; rintro e w1 ⟨rfl, rfl⟩)
  all_goals
    go_ret
    exact ⟨ret_int (by rw [← HR.out]; unfold cmpI; first | (rw [if_pos (by omega)]; done) | (rw [if_neg (by omega), if_pos (by omega)]; done) | (rw [if_neg (by omega), if_neg (by omega)])), rfl⟩

def compareP (a b c d : Int) : Int × Int := if usableB a b && usableB c d then (cmpI (a * d) (c * b), 0) else (0, 2)
theorem usable_rng {a b : Int} (h : usableB a b = true) : 0 ≤ a ∧ a ≤ 1000000 ∧ 1 ≤ b ∧ b ≤ 1000000 := by
  unfold usableB btwB at h
  simp only [Bool.and_eq_true, decide_eq_true_eq] at h
  omega
theorem prod_rng {a b : Int} (h1 : 0 ≤ a) (h2 : a ≤ 1000000) (h3 : 0 ≤ b) (h4 : b ≤ 1000000) : 0 ≤ a * b ∧ a * b ≤ 1000000000000 :=
  ⟨Int.mul_nonneg h1 h3, by have := Int.mul_le_mul h2 h4 h3 (by omega : (0 : Int) ≤ 1000000); omega⟩
theorem compare_p (a b c d : Int) (w : World) : Calls Tryd.prog 17 #[.int .i64 a, .int .i64 b, .int .i64 c, .int .i64 d] w fun e w' => e = .returned (.tuple #[.int .i64 (compareP a b c d).1, .int .i64 (compareP a b c d).2]) ∧ Below w.heap.size w w' := by
  obtain ⟨x, y, hv⟩ : ∃ x y, compareP a b c d = (x, y) := ⟨_, _, rfl⟩
  rw [hv]
  have hof : (if usableB a b && usableB c d then (cmpI (a * d) (c * b), 0) else (0, 2)) = (x, y) := hv
  cases h1 : usableB a b <;> cases h2 : usableB c d
  all_goals
    have H1 := Lib.hid h1
    have H2 := Lib.hid h2
    rw [h1, h2] at hof
    have HOF := Lib.hid hof
  rotate_right
  · obtain ⟨a1, a2, a3, a4⟩ := usable_rng h1
    obtain ⟨c1, c2, c3, c4⟩ := usable_rng h2
    obtain ⟨m1, m2⟩ := prod_rng a1 a2 (by omega : 0 ≤ d) c4
    obtain ⟨m3, m4⟩ := prod_rng c1 c2 (by omega : 0 ≤ b) a4
    clear hof hv h1 h2
    go_enter Tryd.func17, Tryd.ntmps17
    go_wp2_with (first
      | (go_at_call 34; refine (usable_p _ _ _).mono ?_; rintro e w1 ⟨rfl, rfl⟩; first | rw [H1.out] | rw [H2.out])
      | (go_at_call 35; refine (comp_i _ _ _).mono ?_; rintro e w1 ⟨rfl, rfl⟩))
    go_ret2
    exact ⟨ret_two (congrArg Prod.fst HOF.out) (congrArg Prod.snd HOF.out), Below.refl _ _⟩
  all_goals
    clear hof hv h1 h2
    go_enter Tryd.func17, Tryd.ntmps17
    go_wp2_with (go_at_call 34; refine (usable_p _ _ _).mono ?_; rintro e w1 ⟨rfl, rfl⟩; first | rw [H1.out] | rw [H2.out])
    all_goals go_ret2
    exact ⟨ret_two (congrArg Prod.fst HOF.out) (congrArg Prod.snd HOF.out), Below.refl _ _⟩
theorem compare_r (a b c d : Int) (w : World) : Calls Tryd.prog 18 #[.int .i64 a, .int .i64 b, .int .i64 c, .int .i64 d] w fun e w' => e = .returned (.tuple #[.int .i64 (compareP a b c d).1, .int .i64 (compareP a b c d).2]) ∧ Below w.heap.size w w' := by
  obtain ⟨x, y, hv⟩ : ∃ x y, compareP a b c d = (x, y) := ⟨_, _, rfl⟩
  rw [hv]
  have hof : (if usableB a b && usableB c d then (cmpI (a * d) (c * b), 0) else (0, 2)) = (x, y) := hv
  cases h1 : usableB a b <;> cases h2 : usableB c d
  all_goals
    have H1 := Lib.hid h1
    have H2 := Lib.hid h2
    rw [h1, h2] at hof
    have HOF := Lib.hid hof
  rotate_right
  · obtain ⟨a1, a2, a3, a4⟩ := usable_rng h1
    obtain ⟨c1, c2, c3, c4⟩ := usable_rng h2
    obtain ⟨m1, m2⟩ := prod_rng a1 a2 (by omega : 0 ≤ d) c4
    obtain ⟨m3, m4⟩ := prod_rng c1 c2 (by omega : 0 ≤ b) a4
    clear hof hv h1 h2
    go_enter Tryd.func18, Tryd.ntmps18
    go_wp2_with (go_at_call 36; refine (rated_r _ _ _).mono ?_; rintro e w1 ⟨rfl, rfl⟩; first | rw [H1.out] | rw [H2.out])
    try go_quiet (fail)
    all_goals try go_wp2
    all_goals
      go_ret2
      exact ⟨ret_two (by rw [show x = cmpI (a * d) (c * b) from (congrArg Prod.fst HOF.out).symm]; unfold cmpI; symm; first | (rw [if_pos (by omega)]; done) | (rw [if_neg (by omega), if_pos (by omega)]; done) | (rw [if_neg (by omega), if_neg (by omega)])) (congrArg Prod.snd HOF.out), by first | exact Below.refl _ _ | exact below_n _⟩
  all_goals
    clear hof hv h1 h2
    go_enter Tryd.func18, Tryd.ntmps18
    go_wp2_with (go_at_call 36; refine (rated_r _ _ _).mono ?_; rintro e w1 ⟨rfl, rfl⟩; first | rw [H1.out] | rw [H2.out])
    all_goals go_ret2
    exact ⟨ret_two (congrArg Prod.fst HOF.out) (congrArg Prod.snd HOF.out), Below.refl _ _⟩

theorem divided_p (n d : Int) (hd : 1 ≤ d) (w : World) : Calls Tryd.prog 51 #[.int .i64 n, .int .i64 d] w fun e w' => e = .returned (.int .i64 0) ∧ w = w' := by
  have h1 : ¬ d = 0 := by omega
  have h2 : ¬ d = -1 := by omega
  by_cases h3 : n = -9223372036854775808
  all_goals
    go_enter Tryd.func51, Tryd.ntmps51
    go_wp2
    go_ret
    exact ⟨ret_int rfl, rfl⟩
theorem ceil_eq {n d : Int} (hn : 0 ≤ n) (hd : 1 ≤ d) : (n + d - 1) / d = if n % d = 0 then n / d else n / d + 1 := by
  have he := Int.mul_ediv_add_emod n d
  have h0 := Int.emod_nonneg n (show d ≠ 0 by omega)
  have hl := Int.emod_lt_of_pos n (show 0 < d by omega)
  generalize n / d = q at *
  generalize n % d = r at *
  subst he
  by_cases hr : r = 0
  · rw [if_pos hr, hr, show d * q + 0 + d - 1 = (d - 1) + d * q by omega, Int.add_mul_ediv_left _ _ (by omega), Int.ediv_eq_zero_of_lt (by omega) (by omega)]; omega
  · rw [if_neg hr, show d * q + r + d - 1 = (r - 1) + d * (q + 1) by rw [Int.mul_add]; omega, Int.add_mul_ediv_left _ _ (by omega), Int.ediv_eq_zero_of_lt (by omega) (by omega)]; omega
theorem ceilDiv_p (n d : Int) (hn : 0 ≤ n) (hm : n ≤ 1000000000000) (hd : 1 ≤ d) (w : World) : Calls Tryd.prog 40 #[.int .i64 n, .int .i64 d] w fun e w' => e = .returned (.tuple #[.int .i64 ((n + d - 1) / d), .int .i64 0]) ∧ Below w.heap.size w w' := by
  have d1 : Int.tdiv n d = n / d := Int.tdiv_eq_ediv_of_nonneg hn
  have d2 : Int.tmod n d = n % d := Int.tmod_eq_emod_of_nonneg hn
  have q1 : 0 ≤ n / d := Int.ediv_nonneg hn (by omega)
  have q2 : n / d ≤ 1000000000000 := Int.le_trans (Int.ediv_le_self _ hn) hm
  have hne : d ≠ 0 := by omega
  have n1 : ¬ n < 0 := by omega
  have n2 : ¬ d < 0 := by omega
  obtain ⟨z, hz⟩ : ∃ z, (n + d - 1) / d = z := ⟨_, rfl⟩
  have hz' := hz
  rw [ceil_eq hn hd] at hz'
  rw [hz]
  by_cases hr : n % d = 0
  · rw [if_pos hr] at hz'
    have HZ := Lib.hid hz'
    clear hz hz'
    go_enter Tryd.func40, Tryd.ntmps40
    go_wp2_with (go_at_call 51; refine (divided_p _ _ hd _).mono ?_; rintro e w1 ⟨rfl, rfl⟩)
    go_ret2
    exact ⟨ret_two HZ.out rfl, Below.refl _ _⟩
  · rw [if_neg hr] at hz'
    have f1 : (n % d != 0) = true := by simp [hr]
    have f2 : (decide (n < 0) == decide (d < 0)) = true := by rw [decide_eq_false n1, decide_eq_false n2]; rfl
    have HZ := Lib.hid hz'
    clear hz hz'
    go_enter Tryd.func40, Tryd.ntmps40
    go_wp2_with (go_at_call 51; refine (divided_p _ _ hd _).mono ?_; rintro e w1 ⟨rfl, rfl⟩)
    go_ret2
    exact ⟨ret_two HZ.out rfl, Below.refl _ _⟩

def neededP (runs balls per : Int) : Int × Int := if usableB runs balls && knownB per then ((runs * per + balls - 1) / balls, 0) else (0, 2)
theorem needed_p (a b per : Int) (w : World) : Calls Tryd.prog 24 #[.int .i64 a, .int .i64 b, .int .i64 per] w fun e w' => e = .returned (.tuple #[.int .i64 (neededP a b per).1, .int .i64 (neededP a b per).2]) ∧ Below w.heap.size w w' := by
  obtain ⟨x, y, hv⟩ : ∃ x y, neededP a b per = (x, y) := ⟨_, _, rfl⟩
  rw [hv]
  have hof : (if usableB a b && knownB per then ((a * per + b - 1) / b, 0) else (0, 2)) = (x, y) := hv
  cases h1 : usableB a b <;> cases h2 : knownB per
  all_goals
    have H1 := Lib.hid h1
    have H2 := Lib.hid h2
    rw [h1, h2] at hof
    have HOF := Lib.hid hof
  rotate_right
  · obtain ⟨a1, a2, a3, a4⟩ := usable_rng h1
    have hpr : 1 ≤ per ∧ per ≤ 8 := by unfold knownB at h2; simpa using h2
    obtain ⟨m1, m2⟩ := prod_rng a1 a2 (by omega : 0 ≤ per) (by omega)
    obtain ⟨p1, p2⟩ := hpr
    clear hof hv h1 h2
    go_enter Tryd.func24, Tryd.ntmps24
    go_wp2_with (first
      | (go_at_call 34; refine (usable_p _ _ _).mono ?_; rintro e w1 ⟨rfl, rfl⟩; rw [H1.out])
      | (go_at_call 26; refine (known_p _ _).mono ?_; rintro e w1 ⟨rfl, rfl⟩; rw [H2.out])
      | (go_at_call 40; refine (ceilDiv_p _ _ m1 m2 a3 _).mono ?_; rintro e w1 ⟨rfl, hb1⟩))
    go_ret2
    exact ⟨ret_two (congrArg Prod.fst HOF.out) (congrArg Prod.snd HOF.out), hb1⟩
  all_goals
    clear hof hv h1 h2
    go_enter Tryd.func24, Tryd.ntmps24
    go_wp2_with (first
      | (go_at_call 34; refine (usable_p _ _ _).mono ?_; rintro e w1 ⟨rfl, rfl⟩; rw [H1.out])
      | (go_at_call 26; refine (known_p _ _).mono ?_; rintro e w1 ⟨rfl, rfl⟩; rw [H2.out]))
    all_goals go_ret2
    exact ⟨ret_two (congrArg Prod.fst HOF.out) (congrArg Prod.snd HOF.out), Below.refl _ _⟩
theorem needed_r (a b per : Int) (w : World) : Calls Tryd.prog 25 #[.int .i64 a, .int .i64 b, .int .i64 per] w fun e w' => e = .returned (.tuple #[.int .i64 (neededP a b per).1, .int .i64 (neededP a b per).2]) ∧ Below w.heap.size w w' := by
  obtain ⟨x, y, hv⟩ : ∃ x y, neededP a b per = (x, y) := ⟨_, _, rfl⟩
  rw [hv]
  have hof : (if usableB a b && knownB per then ((a * per + b - 1) / b, 0) else (0, 2)) = (x, y) := hv
  cases h1 : usableB a b <;> cases h2 : knownB per
  all_goals
    have H1 := Lib.hid h1
    have H2 := Lib.hid h2
    rw [h1, h2] at hof
    have HOF := Lib.hid hof
  rotate_right
  · obtain ⟨a1, a2, a3, a4⟩ := usable_rng h1
    have hpr : 1 ≤ per ∧ per ≤ 8 := by unfold knownB at h2; simpa using h2
    obtain ⟨m1, m2⟩ := prod_rng a1 a2 (by omega : 0 ≤ per) (by omega)
    obtain ⟨p1, p2⟩ := hpr
    have d1 : Int.tdiv (a * per + b - 1) b = (a * per + b - 1) / b := Int.tdiv_eq_ediv_of_nonneg (by omega)
    have q1 : 0 ≤ (a * per + b - 1) / b := Int.ediv_nonneg (by omega) (by omega)
    have q2 : (a * per + b - 1) / b ≤ 1000001000000 := Int.le_trans (Int.ediv_le_self _ (by omega)) (by omega)
    have hne : b ≠ 0 := by omega
    clear hof hv h1 h2
    go_enter Tryd.func25, Tryd.ntmps25
    go_wp2_with (first
      | (go_at_call 36; refine (rated_r _ _ _).mono ?_; rintro e w1 ⟨rfl, rfl⟩; rw [H1.out])
      | (go_at_call 28; refine (perOK_r _ _).mono ?_; rintro e w1 ⟨rfl, rfl⟩; rw [H2.out]))
    try go_quiet (fail)
    all_goals try go_wp2
    go_ret2
    exact ⟨ret_two (congrArg Prod.fst HOF.out) (congrArg Prod.snd HOF.out), by first | exact Below.refl _ _ | exact below_n _⟩
  all_goals
    clear hof hv h1 h2
    go_enter Tryd.func25, Tryd.ntmps25
    go_wp2_with (first
      | (go_at_call 36; refine (rated_r _ _ _).mono ?_; rintro e w1 ⟨rfl, rfl⟩; rw [H1.out])
      | (go_at_call 28; refine (perOK_r _ _).mono ?_; rintro e w1 ⟨rfl, rfl⟩; rw [H2.out]))
    all_goals go_ret2
    exact ⟨ret_two (congrArg Prod.fst HOF.out) (congrArg Prod.snd HOF.out), Below.refl _ _⟩
end Go.Proofs.YtcnjjkmfneeajaaDoor
