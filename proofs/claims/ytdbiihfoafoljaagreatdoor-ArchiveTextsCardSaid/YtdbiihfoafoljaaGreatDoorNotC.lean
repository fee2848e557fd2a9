/-
  Chapter 7: Check of the program and of the reference.
-/
import Derived.Test.YtdbiihfoafoljaaGreatDoorRows
import Derived.Test.YtdbiihfoafoljaaGreatDoorBase
import Derived.Test.YtdbiihfoafoljaaGreatDoorNotP
import Derived.RegionTactic
import Derived.BigRegion
set_option linter.unusedSimpArgs false
set_option linter.unusedVariables false
namespace Go.Proofs.YtdbiihfoafoljaaGreatDoor
open Go.RowKit
set_option maxRecDepth 100000
set_option maxHeartbeats 2000000
def delV (d : Del) : Value := .agg #[.int .u8 d.ty, .int .u8 d.src, .int .i64 d.runs, .int .i64 d.short, .int .i64 d.bd, .bool d.cr, .int .u8 d.how, .int .i64 d.vic, .int .i64 d.fd, .int .i64 d.sd, .bool d.sub, .int .i64 d.sec]
theorem btw_p (n lo hi : Int) (v : Bool) (w : World) (hv : btw n lo hi = v) : Calls Tryz.prog 68 #[.int .i64 n, .int .i64 lo, .int .i64 hi] w fun e w' => e = .returned (.bool v) ∧ w = w' := by
  subst hv
  unfold btw
  by_cases h1 : lo ≤ n
  · by_cases h2 : n ≤ hi
    · go_enter Tryz.func68, Tryz.ntmps68
      go_wp2_with fail
      go_ret
      simp [h1, h2]
    · go_enter Tryz.func68, Tryz.ntmps68
      go_wp2_with fail
      go_ret
      simp [h1, h2]
  · go_enter Tryz.func68, Tryz.ntmps68
    go_wp2_with fail
    go_ret
    simp [h1]
    omega
theorem btw_r (n lo hi : Int) (v : Bool) (w : World) (hv : btw n lo hi = v) : Calls Tryz.prog 110 #[.int .i64 n, .int .i64 lo, .int .i64 hi] w fun e w' => e = .returned (.bool v) ∧ w = w' := by
  subst hv
  unfold btw
  by_cases h1 : lo ≤ n
  · by_cases h2 : n ≤ hi
    · go_enter Tryz.func110, Tryz.ntmps110
      go_wp2_with fail
      go_ret
      simp [h1, h2]
    · go_enter Tryz.func110, Tryz.ntmps110
      go_wp2_with fail
      go_ret
      simp [h1, h2]
  · go_enter Tryz.func110, Tryz.ntmps110
    go_wp2_with fail
    go_ret
    simp [h1]
    omega
theorem chk_p (d : Del) (w : World) : Calls Tryz.prog 41 #[delV d] w fun e w' => e = .returned (.int .i64 (chkD d)) ∧ Below w.heap.size w w' := by
  obtain ⟨ty, src, runs, short, bd, cr, how, vic, fd, sd, sub, sec⟩ := d
  have hbx := cur_new w (.cells #[.int .u8 ty, .int .u8 src, .int .i64 runs, .int .i64 short, .int .i64 bd, .bool cr, .int .u8 how, .int .i64 vic, .int .i64 fd, .int .i64 sd, .bool sub, .int .i64 sec] 36)
  have HB := Lib.hid hbx
  clear hbx
  unfold delV chkD
  simp only []
  by_cases h1 : ty < 1
  · simp only [h1, decide_true, decide_false, Bool.true_or, Bool.false_or, if_true]
    go_enter Tryz.func41, Tryz.ntmps41
    go_wp2_with fail
    go_ret
    exact ⟨rfl, HB.out⟩
  by_cases h2 : 3 < ty
  · simp only [h1, h2, decide_true, decide_false, Bool.true_or, Bool.false_or, if_true]
    go_enter Tryz.func41, Tryz.ntmps41
    go_wp2_with fail
    go_ret
    exact ⟨rfl, HB.out⟩
  by_cases h3 : 3 < src
  · simp only [h1, h2, h3, decide_true, decide_false, Bool.true_or, Bool.false_or, if_true]
    go_enter Tryz.func41, Tryz.ntmps41
    go_wp2_with fail
    go_ret
    exact ⟨rfl, HB.out⟩
  by_cases h4 : 10 < how
  · simp only [h1, h2, h3, h4, decide_true, decide_false, Bool.true_or, Bool.false_or, if_true]
    go_enter Tryz.func41, Tryz.ntmps41
    go_wp2_with fail
    go_ret
    exact ⟨rfl, HB.out⟩
  simp only [h1, h2, h3, h4, decide_false, Bool.or_self, Bool.false_or, Bool.false_eq_true, if_false]
  obtain ⟨v1, hv1⟩ : ∃ v, btw runs 0 7 = v := ⟨_, rfl⟩
  obtain ⟨v2, hv2⟩ : ∃ v, btw short 0 runs = v := ⟨_, rfl⟩
  obtain ⟨v3, hv3⟩ : ∃ v, btw vic 0 2 = v := ⟨_, rfl⟩
  obtain ⟨v4, hv4⟩ : ∃ v, btw fd 0 11 = v := ⟨_, rfl⟩
  obtain ⟨v5, hv5⟩ : ∃ v, btw sd 0 11 = v := ⟨_, rfl⟩
  obtain ⟨v6, hv6⟩ : ∃ v, btw sec 0 8 = v := ⟨_, rfl⟩
  rw [hv1, hv2, hv3, hv4, hv5, hv6]
  have HV1 := Lib.hid hv1
  have HV2 := Lib.hid hv2
  have HV3 := Lib.hid hv3
  have HV4 := Lib.hid hv4
  have HV5 := Lib.hid hv5
  have HV6 := Lib.hid hv6
  clear hv1 hv2 hv3 hv4 hv5 hv6
  cases v1
  · simp only [Bool.not_false, Bool.not_true, Bool.true_or, Bool.false_or, Bool.or_true, Bool.or_false, if_true, if_false, Bool.false_eq_true]
    go_enter Tryz.func41, Tryz.ntmps41
    go_wp2_with (go_at_call 68; refine (btw_p _ _ _ _ _ rfl).mono ?_; rintro e w9 ⟨rfl, rfl⟩; first | rw [HV1.out] | rw [HV2.out] | rw [HV3.out] | rw [HV4.out] | rw [HV5.out] | rw [HV6.out])
    go_ret
    exact ⟨rfl, HB.out⟩
  cases v2
  · simp only [Bool.not_false, Bool.not_true, Bool.true_or, Bool.false_or, Bool.or_true, Bool.or_false, if_true, if_false, Bool.false_eq_true]
    go_enter Tryz.func41, Tryz.ntmps41
    go_wp2_with (go_at_call 68; refine (btw_p _ _ _ _ _ rfl).mono ?_; rintro e w9 ⟨rfl, rfl⟩; first | rw [HV1.out] | rw [HV2.out] | rw [HV3.out] | rw [HV4.out] | rw [HV5.out] | rw [HV6.out])
    go_ret
    exact ⟨rfl, HB.out⟩
  have hbd : bd = 0 ∨ bd = 4 ∨ bd = 6 ∨ (bd ≠ 0 ∧ bd ≠ 4 ∧ bd ≠ 6) := by omega
  rcases hbd with rfl | rfl | rfl | ⟨hb1, hb2, hb3⟩
  · simp only [bne_self_eq_false, Bool.false_and, Bool.and_false, Bool.false_or, show ((4 : Int) != 0) = true from rfl, show ((6 : Int) != 0) = true from rfl, show ((6 : Int) != 4) = true from rfl, Bool.true_and]
    cases v3
    · simp only [Bool.not_false, Bool.not_true, Bool.true_or, Bool.false_or, Bool.or_true, Bool.or_false, if_true, if_false, Bool.false_eq_true]
      go_enter Tryz.func41, Tryz.ntmps41
      go_wp2_with (go_at_call 68; refine (btw_p _ _ _ _ _ rfl).mono ?_; rintro e w9 ⟨rfl, rfl⟩; first | rw [HV1.out] | rw [HV2.out] | rw [HV3.out] | rw [HV4.out] | rw [HV5.out] | rw [HV6.out])
      go_ret
      exact ⟨rfl, HB.out⟩
    cases v4
    · simp only [Bool.not_false, Bool.not_true, Bool.true_or, Bool.false_or, Bool.or_true, Bool.or_false, if_true, if_false, Bool.false_eq_true]
      go_enter Tryz.func41, Tryz.ntmps41
      go_wp2_with (go_at_call 68; refine (btw_p _ _ _ _ _ rfl).mono ?_; rintro e w9 ⟨rfl, rfl⟩; first | rw [HV1.out] | rw [HV2.out] | rw [HV3.out] | rw [HV4.out] | rw [HV5.out] | rw [HV6.out])
      go_ret
      exact ⟨rfl, HB.out⟩
    cases v5
    · simp only [Bool.not_false, Bool.not_true, Bool.true_or, Bool.false_or, Bool.or_true, Bool.or_false, if_true, if_false, Bool.false_eq_true]
      go_enter Tryz.func41, Tryz.ntmps41
      go_wp2_with (go_at_call 68; refine (btw_p _ _ _ _ _ rfl).mono ?_; rintro e w9 ⟨rfl, rfl⟩; first | rw [HV1.out] | rw [HV2.out] | rw [HV3.out] | rw [HV4.out] | rw [HV5.out] | rw [HV6.out])
      go_ret
      exact ⟨rfl, HB.out⟩
    cases v6
    · simp only [Bool.not_false, Bool.not_true, Bool.true_or, Bool.false_or, Bool.or_true, Bool.or_false, if_true, if_false, Bool.false_eq_true]
      go_enter Tryz.func41, Tryz.ntmps41
      go_wp2_with (go_at_call 68; refine (btw_p _ _ _ _ _ rfl).mono ?_; rintro e w9 ⟨rfl, rfl⟩; first | rw [HV1.out] | rw [HV2.out] | rw [HV3.out] | rw [HV4.out] | rw [HV5.out] | rw [HV6.out])
      go_ret
      exact ⟨rfl, HB.out⟩
    simp only [Bool.not_false, Bool.not_true, Bool.true_or, Bool.false_or, Bool.or_true, Bool.or_false, if_true, if_false, Bool.false_eq_true]
    go_enter Tryz.func41, Tryz.ntmps41
    go_wp2_with (go_at_call 68; refine (btw_p _ _ _ _ _ rfl).mono ?_; rintro e w9 ⟨rfl, rfl⟩; first | rw [HV1.out] | rw [HV2.out] | rw [HV3.out] | rw [HV4.out] | rw [HV5.out] | rw [HV6.out])
    go_ret
    exact ⟨rfl, HB.out⟩
  · simp only [bne_self_eq_false, Bool.false_and, Bool.and_false, Bool.false_or, show ((4 : Int) != 0) = true from rfl, show ((6 : Int) != 0) = true from rfl, show ((6 : Int) != 4) = true from rfl, Bool.true_and]
    cases v3
    · simp only [Bool.not_false, Bool.not_true, Bool.true_or, Bool.false_or, Bool.or_true, Bool.or_false, if_true, if_false, Bool.false_eq_true]
      go_enter Tryz.func41, Tryz.ntmps41
      go_wp2_with (go_at_call 68; refine (btw_p _ _ _ _ _ rfl).mono ?_; rintro e w9 ⟨rfl, rfl⟩; first | rw [HV1.out] | rw [HV2.out] | rw [HV3.out] | rw [HV4.out] | rw [HV5.out] | rw [HV6.out])
      go_ret
      exact ⟨rfl, HB.out⟩
    cases v4
    · simp only [Bool.not_false, Bool.not_true, Bool.true_or, Bool.false_or, Bool.or_true, Bool.or_false, if_true, if_false, Bool.false_eq_true]
      go_enter Tryz.func41, Tryz.ntmps41
      go_wp2_with (go_at_call 68; refine (btw_p _ _ _ _ _ rfl).mono ?_; rintro e w9 ⟨rfl, rfl⟩; first | rw [HV1.out] | rw [HV2.out] | rw [HV3.out] | rw [HV4.out] | rw [HV5.out] | rw [HV6.out])
      go_ret
      exact ⟨rfl, HB.out⟩
    cases v5
    · simp only [Bool.not_false, Bool.not_true, Bool.true_or, Bool.false_or, Bool.or_true, Bool.or_false, if_true, if_false, Bool.false_eq_true]
      go_enter Tryz.func41, Tryz.ntmps41
      go_wp2_with (go_at_call 68; refine (btw_p _ _ _ _ _ rfl).mono ?_; rintro e w9 ⟨rfl, rfl⟩; first | rw [HV1.out] | rw [HV2.out] | rw [HV3.out] | rw [HV4.out] | rw [HV5.out] | rw [HV6.out])
      go_ret
      exact ⟨rfl, HB.out⟩
    cases v6
    · simp only [Bool.not_false, Bool.not_true, Bool.true_or, Bool.false_or, Bool.or_true, Bool.or_false, if_true, if_false, Bool.false_eq_true]
      go_enter Tryz.func41, Tryz.ntmps41
      go_wp2_with (go_at_call 68; refine (btw_p _ _ _ _ _ rfl).mono ?_; rintro e w9 ⟨rfl, rfl⟩; first | rw [HV1.out] | rw [HV2.out] | rw [HV3.out] | rw [HV4.out] | rw [HV5.out] | rw [HV6.out])
      go_ret
      exact ⟨rfl, HB.out⟩
    simp only [Bool.not_false, Bool.not_true, Bool.true_or, Bool.false_or, Bool.or_true, Bool.or_false, if_true, if_false, Bool.false_eq_true]
    go_enter Tryz.func41, Tryz.ntmps41
    go_wp2_with (go_at_call 68; refine (btw_p _ _ _ _ _ rfl).mono ?_; rintro e w9 ⟨rfl, rfl⟩; first | rw [HV1.out] | rw [HV2.out] | rw [HV3.out] | rw [HV4.out] | rw [HV5.out] | rw [HV6.out])
    go_ret
    exact ⟨rfl, HB.out⟩
  · simp only [bne_self_eq_false, Bool.false_and, Bool.and_false, Bool.false_or, show ((4 : Int) != 0) = true from rfl, show ((6 : Int) != 0) = true from rfl, show ((6 : Int) != 4) = true from rfl, Bool.true_and]
    cases v3
    · simp only [Bool.not_false, Bool.not_true, Bool.true_or, Bool.false_or, Bool.or_true, Bool.or_false, if_true, if_false, Bool.false_eq_true]
      go_enter Tryz.func41, Tryz.ntmps41
      go_wp2_with (go_at_call 68; refine (btw_p _ _ _ _ _ rfl).mono ?_; rintro e w9 ⟨rfl, rfl⟩; first | rw [HV1.out] | rw [HV2.out] | rw [HV3.out] | rw [HV4.out] | rw [HV5.out] | rw [HV6.out])
      go_ret
      exact ⟨rfl, HB.out⟩
    cases v4
    · simp only [Bool.not_false, Bool.not_true, Bool.true_or, Bool.false_or, Bool.or_true, Bool.or_false, if_true, if_false, Bool.false_eq_true]
      go_enter Tryz.func41, Tryz.ntmps41
      go_wp2_with (go_at_call 68; refine (btw_p _ _ _ _ _ rfl).mono ?_; rintro e w9 ⟨rfl, rfl⟩; first | rw [HV1.out] | rw [HV2.out] | rw [HV3.out] | rw [HV4.out] | rw [HV5.out] | rw [HV6.out])
      go_ret
      exact ⟨rfl, HB.out⟩
    cases v5
    · simp only [Bool.not_false, Bool.not_true, Bool.true_or, Bool.false_or, Bool.or_true, Bool.or_false, if_true, if_false, Bool.false_eq_true]
      go_enter Tryz.func41, Tryz.ntmps41
      go_wp2_with (go_at_call 68; refine (btw_p _ _ _ _ _ rfl).mono ?_; rintro e w9 ⟨rfl, rfl⟩; first | rw [HV1.out] | rw [HV2.out] | rw [HV3.out] | rw [HV4.out] | rw [HV5.out] | rw [HV6.out])
      go_ret
      exact ⟨rfl, HB.out⟩
    cases v6
    · simp only [Bool.not_false, Bool.not_true, Bool.true_or, Bool.false_or, Bool.or_true, Bool.or_false, if_true, if_false, Bool.false_eq_true]
      go_enter Tryz.func41, Tryz.ntmps41
      go_wp2_with (go_at_call 68; refine (btw_p _ _ _ _ _ rfl).mono ?_; rintro e w9 ⟨rfl, rfl⟩; first | rw [HV1.out] | rw [HV2.out] | rw [HV3.out] | rw [HV4.out] | rw [HV5.out] | rw [HV6.out])
      go_ret
      exact ⟨rfl, HB.out⟩
    simp only [Bool.not_false, Bool.not_true, Bool.true_or, Bool.false_or, Bool.or_true, Bool.or_false, if_true, if_false, Bool.false_eq_true]
    go_enter Tryz.func41, Tryz.ntmps41
    go_wp2_with (go_at_call 68; refine (btw_p _ _ _ _ _ rfl).mono ?_; rintro e w9 ⟨rfl, rfl⟩; first | rw [HV1.out] | rw [HV2.out] | rw [HV3.out] | rw [HV4.out] | rw [HV5.out] | rw [HV6.out])
    go_ret
    exact ⟨rfl, HB.out⟩
  · have k1 : (bd != 0) = true := by simpa using hb1
    have k2 : (bd != 4) = true := by simpa using hb2
    have k3 : (bd != 6) = true := by simpa using hb3
    clear hb1 hb2 hb3
    simp only [k1, k2, k3, Bool.and_self, Bool.not_false, Bool.not_true, Bool.true_or, Bool.false_or, Bool.or_true, Bool.or_false, if_true, if_false, Bool.false_eq_true]
    go_enter Tryz.func41, Tryz.ntmps41
    go_wp2_with (go_at_call 68; refine (btw_p _ _ _ _ _ rfl).mono ?_; rintro e w9 ⟨rfl, rfl⟩; first | rw [HV1.out] | rw [HV2.out] | rw [HV3.out] | rw [HV4.out] | rw [HV5.out] | rw [HV6.out])
    go_ret
    exact ⟨rfl, HB.out⟩
theorem chk_r (d : Del) (w : World) : Calls Tryz.prog 78 #[delV d] w fun e w' => e = .returned (.int .i64 (chkD d)) ∧ Below w.heap.size w w' := by
  obtain ⟨ty, src, runs, short, bd, cr, how, vic, fd, sd, sub, sec⟩ := d
  have hbx := cur_new w (.cells #[.int .u8 ty, .int .u8 src, .int .i64 runs, .int .i64 short, .int .i64 bd, .bool cr, .int .u8 how, .int .i64 vic, .int .i64 fd, .int .i64 sd, .bool sub, .int .i64 sec] 36)
  have HB := Lib.hid hbx
  clear hbx
  unfold delV chkD
  simp only []
  by_cases h1 : ty < 1
  · simp only [h1, decide_true, decide_false, Bool.true_or, Bool.false_or, if_true]
    go_enter Tryz.func78, Tryz.ntmps78
    go_wp2_with fail
    go_ret
    exact ⟨rfl, HB.out⟩
  by_cases h2 : 3 < ty
  · simp only [h1, h2, decide_true, decide_false, Bool.true_or, Bool.false_or, if_true]
    go_enter Tryz.func78, Tryz.ntmps78
    go_wp2_with fail
    go_ret
    exact ⟨rfl, HB.out⟩
  by_cases h3 : 3 < src
  · simp only [h1, h2, h3, decide_true, decide_false, Bool.true_or, Bool.false_or, if_true]
    go_enter Tryz.func78, Tryz.ntmps78
    go_wp2_with fail
    go_ret
    exact ⟨rfl, HB.out⟩
  by_cases h4 : 10 < how
  · simp only [h1, h2, h3, h4, decide_true, decide_false, Bool.true_or, Bool.false_or, if_true]
    go_enter Tryz.func78, Tryz.ntmps78
    go_wp2_with fail
    go_ret
    exact ⟨rfl, HB.out⟩
  simp only [h1, h2, h3, h4, decide_false, Bool.or_self, Bool.false_or, Bool.false_eq_true, if_false]
  obtain ⟨v1, hv1⟩ : ∃ v, btw runs 0 7 = v := ⟨_, rfl⟩
  obtain ⟨v2, hv2⟩ : ∃ v, btw short 0 runs = v := ⟨_, rfl⟩
  obtain ⟨v3, hv3⟩ : ∃ v, btw vic 0 2 = v := ⟨_, rfl⟩
  obtain ⟨v4, hv4⟩ : ∃ v, btw fd 0 11 = v := ⟨_, rfl⟩
  obtain ⟨v5, hv5⟩ : ∃ v, btw sd 0 11 = v := ⟨_, rfl⟩
  obtain ⟨v6, hv6⟩ : ∃ v, btw sec 0 8 = v := ⟨_, rfl⟩
  rw [hv1, hv2, hv3, hv4, hv5, hv6]
  have HV1 := Lib.hid hv1
  have HV2 := Lib.hid hv2
  have HV3 := Lib.hid hv3
  have HV4 := Lib.hid hv4
  have HV5 := Lib.hid hv5
  have HV6 := Lib.hid hv6
  clear hv1 hv2 hv3 hv4 hv5 hv6
  cases v1
  · simp only [Bool.not_false, Bool.not_true, Bool.true_or, Bool.false_or, Bool.or_true, Bool.or_false, if_true, if_false, Bool.false_eq_true]
    go_enter Tryz.func78, Tryz.ntmps78
    go_wp2_with (go_at_call 110; refine (btw_r _ _ _ _ _ rfl).mono ?_; rintro e w9 ⟨rfl, rfl⟩; first | rw [HV1.out] | rw [HV2.out] | rw [HV3.out] | rw [HV4.out] | rw [HV5.out] | rw [HV6.out])
    go_ret
    exact ⟨rfl, HB.out⟩
  cases v2
  · simp only [Bool.not_false, Bool.not_true, Bool.true_or, Bool.false_or, Bool.or_true, Bool.or_false, if_true, if_false, Bool.false_eq_true]
    go_enter Tryz.func78, Tryz.ntmps78
    go_wp2_with (go_at_call 110; refine (btw_r _ _ _ _ _ rfl).mono ?_; rintro e w9 ⟨rfl, rfl⟩; first | rw [HV1.out] | rw [HV2.out] | rw [HV3.out] | rw [HV4.out] | rw [HV5.out] | rw [HV6.out])
    go_ret
    exact ⟨rfl, HB.out⟩
  have hbd : bd = 0 ∨ bd = 4 ∨ bd = 6 ∨ (bd ≠ 0 ∧ bd ≠ 4 ∧ bd ≠ 6) := by omega
  rcases hbd with rfl | rfl | rfl | ⟨hb1, hb2, hb3⟩
  · simp only [bne_self_eq_false, Bool.false_and, Bool.and_false, Bool.false_or, show ((4 : Int) != 0) = true from rfl, show ((6 : Int) != 0) = true from rfl, show ((6 : Int) != 4) = true from rfl, Bool.true_and]
    cases v3
    · simp only [Bool.not_false, Bool.not_true, Bool.true_or, Bool.false_or, Bool.or_true, Bool.or_false, if_true, if_false, Bool.false_eq_true]
      go_enter Tryz.func78, Tryz.ntmps78
      go_wp2_with (go_at_call 110; refine (btw_r _ _ _ _ _ rfl).mono ?_; rintro e w9 ⟨rfl, rfl⟩; first | rw [HV1.out] | rw [HV2.out] | rw [HV3.out] | rw [HV4.out] | rw [HV5.out] | rw [HV6.out])
      go_ret
      exact ⟨rfl, HB.out⟩
    cases v4
    · simp only [Bool.not_false, Bool.not_true, Bool.true_or, Bool.false_or, Bool.or_true, Bool.or_false, if_true, if_false, Bool.false_eq_true]
      go_enter Tryz.func78, Tryz.ntmps78
      go_wp2_with (go_at_call 110; refine (btw_r _ _ _ _ _ rfl).mono ?_; rintro e w9 ⟨rfl, rfl⟩; first | rw [HV1.out] | rw [HV2.out] | rw [HV3.out] | rw [HV4.out] | rw [HV5.out] | rw [HV6.out])
      go_ret
      exact ⟨rfl, HB.out⟩
    cases v5
    · simp only [Bool.not_false, Bool.not_true, Bool.true_or, Bool.false_or, Bool.or_true, Bool.or_false, if_true, if_false, Bool.false_eq_true]
      go_enter Tryz.func78, Tryz.ntmps78
      go_wp2_with (go_at_call 110; refine (btw_r _ _ _ _ _ rfl).mono ?_; rintro e w9 ⟨rfl, rfl⟩; first | rw [HV1.out] | rw [HV2.out] | rw [HV3.out] | rw [HV4.out] | rw [HV5.out] | rw [HV6.out])
      go_ret
      exact ⟨rfl, HB.out⟩
    cases v6
    · simp only [Bool.not_false, Bool.not_true, Bool.true_or, Bool.false_or, Bool.or_true, Bool.or_false, if_true, if_false, Bool.false_eq_true]
      go_enter Tryz.func78, Tryz.ntmps78
      go_wp2_with (go_at_call 110; refine (btw_r _ _ _ _ _ rfl).mono ?_; rintro e w9 ⟨rfl, rfl⟩; first | rw [HV1.out] | rw [HV2.out] | rw [HV3.out] | rw [HV4.out] | rw [HV5.out] | rw [HV6.out])
      go_ret
      exact ⟨rfl, HB.out⟩
    simp only [Bool.not_false, Bool.not_true, Bool.true_or, Bool.false_or, Bool.or_true, Bool.or_false, if_true, if_false, Bool.false_eq_true]
    go_enter Tryz.func78, Tryz.ntmps78
    go_wp2_with (go_at_call 110; refine (btw_r _ _ _ _ _ rfl).mono ?_; rintro e w9 ⟨rfl, rfl⟩; first | rw [HV1.out] | rw [HV2.out] | rw [HV3.out] | rw [HV4.out] | rw [HV5.out] | rw [HV6.out])
    go_ret
    exact ⟨rfl, HB.out⟩
  · simp only [bne_self_eq_false, Bool.false_and, Bool.and_false, Bool.false_or, show ((4 : Int) != 0) = true from rfl, show ((6 : Int) != 0) = true from rfl, show ((6 : Int) != 4) = true from rfl, Bool.true_and]
    cases v3
    · simp only [Bool.not_false, Bool.not_true, Bool.true_or, Bool.false_or, Bool.or_true, Bool.or_false, if_true, if_false, Bool.false_eq_true]
      go_enter Tryz.func78, Tryz.ntmps78
      go_wp2_with (go_at_call 110; refine (btw_r _ _ _ _ _ rfl).mono ?_; rintro e w9 ⟨rfl, rfl⟩; first | rw [HV1.out] | rw [HV2.out] | rw [HV3.out] | rw [HV4.out] | rw [HV5.out] | rw [HV6.out])
      go_ret
      exact ⟨rfl, HB.out⟩
    cases v4
    · simp only [Bool.not_false, Bool.not_true, Bool.true_or, Bool.false_or, Bool.or_true, Bool.or_false, if_true, if_false, Bool.false_eq_true]
      go_enter Tryz.func78, Tryz.ntmps78
      go_wp2_with (go_at_call 110; refine (btw_r _ _ _ _ _ rfl).mono ?_; rintro e w9 ⟨rfl, rfl⟩; first | rw [HV1.out] | rw [HV2.out] | rw [HV3.out] | rw [HV4.out] | rw [HV5.out] | rw [HV6.out])
      go_ret
      exact ⟨rfl, HB.out⟩
    cases v5
    · simp only [Bool.not_false, Bool.not_true, Bool.true_or, Bool.false_or, Bool.or_true, Bool.or_false, if_true, if_false, Bool.false_eq_true]
      go_enter Tryz.func78, Tryz.ntmps78
      go_wp2_with (go_at_call 110; refine (btw_r _ _ _ _ _ rfl).mono ?_; rintro e w9 ⟨rfl, rfl⟩; first | rw [HV1.out] | rw [HV2.out] | rw [HV3.out] | rw [HV4.out] | rw [HV5.out] | rw [HV6.out])
      go_ret
      exact ⟨rfl, HB.out⟩
    cases v6
    · simp only [Bool.not_false, Bool.not_true, Bool.true_or, Bool.false_or, Bool.or_true, Bool.or_false, if_true, if_false, Bool.false_eq_true]
      go_enter Tryz.func78, Tryz.ntmps78
      go_wp2_with (go_at_call 110; refine (btw_r _ _ _ _ _ rfl).mono ?_; rintro e w9 ⟨rfl, rfl⟩; first | rw [HV1.out] | rw [HV2.out] | rw [HV3.out] | rw [HV4.out] | rw [HV5.out] | rw [HV6.out])
      go_ret
      exact ⟨rfl, HB.out⟩
    simp only [Bool.not_false, Bool.not_true, Bool.true_or, Bool.false_or, Bool.or_true, Bool.or_false, if_true, if_false, Bool.false_eq_true]
    go_enter Tryz.func78, Tryz.ntmps78
    go_wp2_with (go_at_call 110; refine (btw_r _ _ _ _ _ rfl).mono ?_; rintro e w9 ⟨rfl, rfl⟩; first | rw [HV1.out] | rw [HV2.out] | rw [HV3.out] | rw [HV4.out] | rw [HV5.out] | rw [HV6.out])
    go_ret
    exact ⟨rfl, HB.out⟩
  · simp only [bne_self_eq_false, Bool.false_and, Bool.and_false, Bool.false_or, show ((4 : Int) != 0) = true from rfl, show ((6 : Int) != 0) = true from rfl, show ((6 : Int) != 4) = true from rfl, Bool.true_and]
    cases v3
    · simp only [Bool.not_false, Bool.not_true, Bool.true_or, Bool.false_or, Bool.or_true, Bool.or_false, if_true, if_false, Bool.false_eq_true]
      go_enter Tryz.func78, Tryz.ntmps78
      go_wp2_with (go_at_call 110; refine (btw_r _ _ _ _ _ rfl).mono ?_; rintro e w9 ⟨rfl, rfl⟩; first | rw [HV1.out] | rw [HV2.out] | rw [HV3.out] | rw [HV4.out] | rw [HV5.out] | rw [HV6.out])
      go_ret
      exact ⟨rfl, HB.out⟩
    cases v4
    · simp only [Bool.not_false, Bool.not_true, Bool.true_or, Bool.false_or, Bool.or_true, Bool.or_false, if_true, if_false, Bool.false_eq_true]
      go_enter Tryz.func78, Tryz.ntmps78
      go_wp2_with (go_at_call 110; refine (btw_r _ _ _ _ _ rfl).mono ?_; rintro e w9 ⟨rfl, rfl⟩; first | rw [HV1.out] | rw [HV2.out] | rw [HV3.out] | rw [HV4.out] | rw [HV5.out] | rw [HV6.out])
      go_ret
      exact ⟨rfl, HB.out⟩
    cases v5
    · simp only [Bool.not_false, Bool.not_true, Bool.true_or, Bool.false_or, Bool.or_true, Bool.or_false, if_true, if_false, Bool.false_eq_true]
      go_enter Tryz.func78, Tryz.ntmps78
      go_wp2_with (go_at_call 110; refine (btw_r _ _ _ _ _ rfl).mono ?_; rintro e w9 ⟨rfl, rfl⟩; first | rw [HV1.out] | rw [HV2.out] | rw [HV3.out] | rw [HV4.out] | rw [HV5.out] | rw [HV6.out])
      go_ret
      exact ⟨rfl, HB.out⟩
    cases v6
    · simp only [Bool.not_false, Bool.not_true, Bool.true_or, Bool.false_or, Bool.or_true, Bool.or_false, if_true, if_false, Bool.false_eq_true]
      go_enter Tryz.func78, Tryz.ntmps78
      go_wp2_with (go_at_call 110; refine (btw_r _ _ _ _ _ rfl).mono ?_; rintro e w9 ⟨rfl, rfl⟩; first | rw [HV1.out] | rw [HV2.out] | rw [HV3.out] | rw [HV4.out] | rw [HV5.out] | rw [HV6.out])
      go_ret
      exact ⟨rfl, HB.out⟩
    simp only [Bool.not_false, Bool.not_true, Bool.true_or, Bool.false_or, Bool.or_true, Bool.or_false, if_true, if_false, Bool.false_eq_true]
    go_enter Tryz.func78, Tryz.ntmps78
    go_wp2_with (go_at_call 110; refine (btw_r _ _ _ _ _ rfl).mono ?_; rintro e w9 ⟨rfl, rfl⟩; first | rw [HV1.out] | rw [HV2.out] | rw [HV3.out] | rw [HV4.out] | rw [HV5.out] | rw [HV6.out])
    go_ret
    exact ⟨rfl, HB.out⟩
  · have k1 : (bd != 0) = true := by simpa using hb1
    have k2 : (bd != 4) = true := by simpa using hb2
    have k3 : (bd != 6) = true := by simpa using hb3
    clear hb1 hb2 hb3
    simp only [k1, k2, k3, Bool.and_self, Bool.not_false, Bool.not_true, Bool.true_or, Bool.false_or, Bool.or_true, Bool.or_false, if_true, if_false, Bool.false_eq_true]
    go_enter Tryz.func78, Tryz.ntmps78
    go_wp2_with (go_at_call 110; refine (btw_r _ _ _ _ _ rfl).mono ?_; rintro e w9 ⟨rfl, rfl⟩; first | rw [HV1.out] | rw [HV2.out] | rw [HV3.out] | rw [HV4.out] | rw [HV5.out] | rw [HV6.out])
    go_ret
    exact ⟨rfl, HB.out⟩
end Go.Proofs.YtdbiihfoafoljaaGreatDoor
