/-
  Chapter 54: the small functions of the program and of the reference.
-/
import Derived.Test.YtpninpohligomaaGreatDoorSpec54
set_option linter.unusedSimpArgs false
set_option linter.unusedVariables false
namespace Go.Proofs.YtpninpohligomaaGreatDoor
open Go.RowKit

set_option maxRecDepth 100000
set_option maxHeartbeats 1000000
theorem isDay_p (n : Int) (v : Bool) (w : World) (hv : isDayB n = v) : Calls Tryz.prog 63 #[.int .i64 n] w fun e w' => e = .returned (.bool v) ∧ w = w' := by
  have HV := Lib.hid hv
  clear hv
  go_enter Tryz.func63, Tryz.ntmps63
  go_wp2
  all_goals
    go_ret
    exact ⟨ret_bool (by rw [← HV.out]; simp [isDayB] <;> omega), rfl⟩
theorem day_r (n : Int) (v : Bool) (w : World) (hv : isDayB n = v) : Calls Tryz.prog 69 #[.int .i64 n] w fun e w' => e = .returned (.bool v) ∧ w = w' := by
  have HV := Lib.hid hv
  clear hv
  go_enter Tryz.func69, Tryz.ntmps69
  go_wp2
  all_goals
    go_ret
    exact ⟨ret_bool (by rw [← HV.out]; simp [isDayB] <;> omega), rfl⟩
theorem nan_i (n : Int) (w : World) : Calls Tryz.prog 74 #[.int .i64 n] w fun e w' => e = .returned (.bool false) ∧ w = w' := by
  go_enter Tryz.func74, Tryz.ntmps74
  go_wp2
  go_ret
  exact ⟨ret_bool (by simp), rfl⟩
theorem nan_s (s : ByteArray) (w : World) : Calls Tryz.prog 111 #[.string s] w fun e w' => e = .returned (.bool false) ∧ w = w' := by
  go_enter Tryz.func111, Tryz.ntmps111
  go_wp2
  go_ret
  exact ⟨ret_bool (by simp), rfl⟩
def cmpI (x y : Int) : Int := if x < y then -1 else if y < x then 1 else 0
def cmpS (x y : ByteArray) : Int := if slt x y then -1 else if seq x y then 0 else 1
theorem comp_i (x y : Int) (w : World) : Calls Tryz.prog 50 #[.int .i64 x, .int .i64 y] w fun e w' => e = .returned (.int .i64 (cmpI x y)) ∧ w = w' := by
  obtain ⟨r, hr⟩ : ∃ r, cmpI x y = r := ⟨_, rfl⟩
  have HR := Lib.hid hr
  rw [hr]
  clear hr
  go_enter Tryz.func50, Tryz.ntmps50
  go_wp2_with (go_at_call 74; refine (nan_i _ _).mono ?_; rintro e w1 ⟨rfl, rfl⟩)
  all_goals
    go_ret
    exact ⟨ret_int (by rw [← HR.out]; unfold cmpI; first | (rw [if_pos (by omega)]; done) | (rw [if_neg (by omega), if_pos (by omega)]; done) | (rw [if_neg (by omega), if_neg (by omega)])), rfl⟩
theorem comp_s (x y : ByteArray) (w : World) : Calls Tryz.prog 86 #[.string x, .string y] w fun e w' => e = .returned (.int .i64 (cmpS x y)) ∧ w = w' := by
  obtain ⟨r, hr⟩ : ∃ r, cmpS x y = r := ⟨_, rfl⟩
  have HR := Lib.hid hr
  rw [hr]
  clear hr
  cases h1 : slt x y
  · cases h2 : seq x y
    all_goals
      have H1 := Lib.hid h1
      have H2 := Lib.hid h2
      have e1 : Op.bytesLess x.toList y.toList = false := by rw [slt_to]; exact h1
      have e2 := seq_to x y
      rw [h2] at e2
      clear h1 h2
      go_enter Tryz.func86, Tryz.ntmps86
      go_wp2_with (go_at_call 111; refine (nan_s _ _).mono ?_; rintro e w1 ⟨rfl, rfl⟩)
      all_goals
        go_ret
        exact ⟨ret_int (by rw [← HR.out]; unfold cmpS; rw [H1.out, H2.out]; rfl), rfl⟩
  · have H1 := Lib.hid h1
    have e1 : Op.bytesLess x.toList y.toList = true := by rw [slt_to]; exact h1
    clear h1
    go_enter Tryz.func86, Tryz.ntmps86
    go_wp2_with (go_at_call 111; refine (nan_s _ _).mono ?_; rintro e w1 ⟨rfl, rfl⟩)
    all_goals
      go_ret
      exact ⟨ret_int (by rw [← HR.out]; unfold cmpS; rw [H1.out]; rfl), rfl⟩
end Go.Proofs.YtpninpohligomaaGreatDoor
