/-
  exact.Gcd, Make, Valid, Cmp and those of the reference; Rate.
-/
import Derived.Test.YtcnjjkmfneeajaaDoorCmp04
import Derived.LoopTactic
namespace Go.Proofs.YtcnjjkmfneeajaaDoor
open Go.RowKit
set_option maxRecDepth 100000
set_option maxHeartbeats 1000000

theorem size_p (n : Int) (h0 : 0 ≤ n) (h1 : n ≤ 9223372036854775807) (w : World) : Calls Tryd.prog 48 #[.int .i64 n] w fun e w' => e = .returned (.int .i64 n) ∧ w = w' := by
  have hmax : max n (-n) = n := by omega
  go_enter Tryd.func48, Tryd.ntmps48
  go_wp2
  go_ret
  exact ⟨ret_int (by first | rfl | omega), rfl⟩
theorem size_r (n : Int) (h0 : 0 ≤ n) (h1 : n ≤ 9223372036854775807) (w : World) : Calls Tryd.prog 58 #[.int .i64 n] w fun e w' => e = .returned (.int .i64 n) ∧ w = w' := by
  have hn : ¬ n < 0 := by omega
  go_enter Tryd.func58, Tryd.ntmps58
  go_wp2
  go_ret
  exact ⟨ret_int (by first | rfl | omega), rfl⟩
def GcdR (w : World) (g : Nat) (x y : Value) (wr : World) : Prop := ∃ i j : Nat, x = .int .i64 i ∧ y = .int .i64 j ∧ i ≤ 9223372036854775807 ∧ j ≤ 9223372036854775807 ∧ Nat.gcd i j = g ∧ Below w.heap.size w wr
theorem gcd_p (a b : Nat) (ha : a ≤ 9223372036854775807) (hb : b ≤ 9223372036854775807) (w : World) : Calls Tryd.prog 47 #[.int .i64 a, .int .i64 b] w fun e w' => e = .returned (.int .i64 (Nat.gcd a b : Nat)) ∧ Below w.heap.size w w' := by
  have f1 : ((a : Int) == -9223372036854775808) = false := by rw [beq_eq_false_iff_ne]; omega
  have f2 : ((b : Int) == -9223372036854775808) = false := by rw [beq_eq_false_iff_ne]; omega
  obtain ⟨g, hg⟩ : ∃ g, Nat.gcd a b = g := ⟨_, rfl⟩
  rw [hg]
  have HG := Lib.hid hg
  clear hg
  go_enter Tryd.func47, Tryd.ntmps47
  go_wp2_with (go_at_call 48; refine (size_p _ (by omega) (by omega) _).mono ?_; rintro e w1 ⟨rfl, rfl⟩)
  go_loopw [0, 1] (GcdR w g) (fun _ y _ => (intOf y).toNat)
  case atStart => exact ⟨a, b, rfl, rfl, ha, hb, HG.out, Below.refl _ _⟩
  case round =>
    obtain ⟨i, j, rfl, rfl, hi, hj, hq, hbl⟩ := hrel
    have HQ := Lib.hid hq
    have HB := Lib.hid hbl
    clear hq hbl
    by_cases hz : j = 0
    · subst hz
      go_wp2
      go_ret
      exact ⟨ret_int (by rw [← HQ.out, Nat.gcd_zero_right]), HB.out⟩
    · have hne : (j : Int) ≠ 0 := by omega
      have d2 : Int.tmod (i : Int) j = (i % j : Nat) := by rw [Int.tmod_eq_emod_of_nonneg (by omega)]; rfl
      have hlt : i % j < j := Nat.mod_lt i (by omega)
      have HN := Lib.hid ((Nat.gcd_comm _ _).trans ((Nat.gcd_rec j i).symm.trans ((Nat.gcd_comm j i).trans HQ.out)))
      go_wp2
      go_quiet (fail)
      go_wp2
      go_roundw
      case rel => exact ⟨j, i % j, rfl, rfl, hj, by omega, HN.out, HB.out.trans ((below_n _).mono HB.out.size)⟩
      case measure => simp [intOf] <;> omega
theorem gcd_r (a b : Nat) (ha : a ≤ 9223372036854775807) (hb : b ≤ 9223372036854775807) (w : World) : Calls Tryd.prog 49 #[.int .i64 a, .int .i64 b] w fun e w' => e = .returned (.int .i64 (Nat.gcd a b : Nat)) ∧ Below w.heap.size w w' := by
  have f1 : ((a : Int) == -9223372036854775808) = false := by rw [beq_eq_false_iff_ne]; omega
  have f2 : ((b : Int) == -9223372036854775808) = false := by rw [beq_eq_false_iff_ne]; omega
  obtain ⟨g, hg⟩ : ∃ g, Nat.gcd a b = g := ⟨_, rfl⟩
  rw [hg]
  have HG := Lib.hid hg
  clear hg
  go_enter Tryd.func49, Tryd.ntmps49
  go_wp2_with (go_at_call 58; refine (size_r _ (by omega) (by omega) _).mono ?_; rintro e w1 ⟨rfl, rfl⟩)
  go_loopw [0, 1] (GcdR w g) (fun _ y _ => (intOf y).toNat)
  case atStart => exact ⟨a, b, rfl, rfl, ha, hb, HG.out, Below.refl _ _⟩
  case round =>
    obtain ⟨i, j, rfl, rfl, hi, hj, hq, hbl⟩ := hrel
    have HQ := Lib.hid hq
    have HB := Lib.hid hbl
    clear hq hbl
    by_cases hz : j = 0
    · subst hz
      go_wp2
      go_ret
      exact ⟨ret_int (by rw [← HQ.out, Nat.gcd_zero_right]), HB.out⟩
    · have hne : (j : Int) ≠ 0 := by omega
      have d2 : Int.tmod (i : Int) j = (i % j : Nat) := by rw [Int.tmod_eq_emod_of_nonneg (by omega)]; rfl
      have hlt : i % j < j := Nat.mod_lt i (by omega)
      have HN := Lib.hid ((Nat.gcd_comm _ _).trans ((Nat.gcd_rec j i).symm.trans ((Nat.gcd_comm j i).trans HQ.out)))
      go_wp2
      go_quiet (fail)
      go_wp2
      go_roundw
      case rel => exact ⟨j, i % j, rfl, rfl, hj, by omega, HN.out, HB.out.trans ((below_n _).mono HB.out.size)⟩
      case measure => simp [intOf] <;> omega
end Go.Proofs.YtcnjjkmfneeajaaDoor
