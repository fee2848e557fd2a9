/-
  Chapter 04: awake.
-/
import Derived.Test.YtcnjjkmfneeajaaDoorRate04
import Derived.Test.YtcnjjkmfneeajaaDoorPar04
namespace Go.Proofs.YtcnjjkmfneeajaaDoor
open Go.RowKit
set_option maxRecDepth 100000
set_option maxHeartbeats 1000000

theorem awk_text : textP 75 6 = ([49, 50, 46, 51], 0) := by
  unfold textP
  rw [show (75 / 6 : Int).toNat = 12 from rfl, show (75 % 6 : Int).toNat = 3 from rfl, decDigits_big (by omega), show 12 / 10 = 1 from rfl, show 12 % 10 = 2 from rfl, decDigits_small (by omega), decDigits_small (by omega)]
  decide
theorem awk_p1 : parseP [49, 50, 46, 51] 6 = (75, 0) := by decide +kernel
theorem awk_p2 : parseP [49, 50, 46, 54] 6 = (0, 4) := by decide +kernel
theorem awk_of : ofP 75 6 = (12, 3) := by decide +kernel
theorem awk_rv : rateV 50 36 6 = ratV 25 3 := by
  unfold rateV
  rw [if_pos (by decide +kernel), show (50 * 6 : Int).toNat = 300 from rfl, show (36 : Int).toNat = 36 from rfl, show Nat.gcd 300 36 = 12 from by decide +kernel]
theorem awk_re : rateE 50 36 6 = 0 := by decide +kernel
theorem awk_c : compareP 50 36 100 75 = (1, 0) := by decide +kernel

theorem awake_p (w : World) (hw : LibW w) : Calls Tryd.prog 10 #[] w fun e w' => e = .returned (.bool true) ∧ Below w.heap.size w w' := by
  have HW := Lib.hid hw
  clear hw
  go_enter Tryd.func10, Tryd.ntmps10
  go_wp2_with (fail)
  go_at_call 11
  refine (of_p _ _ _).mono ?_
  rintro e w1 ⟨rfl, hb1⟩
  rw [awk_of]
  have B1 := Lib.hid (hb1)
  clear hb1
  go_wp2_with (fail)
  go_at_call 13
  refine (text_o _ _ _ (HW.out.to B1.out)).mono ?_
  rintro e w2 ⟨rfl, hb2⟩
  rw [awk_text]
  have B2 := Lib.hid (B1.out.trans (hb2.mono B1.out.size))
  clear hb2
  go_wp2_with (fail)
  go_at_call 15
  refine (parse_o _ (by decide) _ _ (HW.out.to B2.out)).mono ?_
  rintro e w3 ⟨rfl, hb3⟩
  rw [show parseP (ByteArray.mk #[49, 50, 46, 51]).data.toList 6 = (75, 0) from awk_p1]
  have B3 := Lib.hid (B2.out.trans (hb3.mono B2.out.size))
  clear hb3
  go_wp2_with (fail)
  go_at_call 15
  refine (parse_o _ (by decide) _ _ (HW.out.to B3.out)).mono ?_
  rintro e w4 ⟨rfl, hb4⟩
  rw [show parseP (ByteArray.mk #[49, 50, 46, 54]).data.toList 6 = (0, 4) from awk_p2]
  have B4 := Lib.hid (B3.out.trans (hb4.mono B3.out.size))
  clear hb4
  go_wp2_with (fail)
  go_at_call 21
  refine (rate_p _ _ _ _).mono ?_
  rintro e w5 ⟨rfl, hb5⟩
  rw [awk_rv, awk_re]
  have B5 := Lib.hid (B4.out.trans (hb5.mono B4.out.size))
  clear hb5
  all_goals unfold ratV
  go_wp2_with (fail)
  go_at_call 17
  refine (compare_p _ _ _ _ _).mono ?_
  rintro e w6 ⟨rfl, hb6⟩
  rw [awk_c]
  have K6 := Lib.hid ((Blk.new w5 38 [.int .i64 25, .int .i64 3]).to hb6)
  have B6 := Lib.hid (B5.out.trans (((Below.refl w5.heap.size w5).alloc (Nat.le_refl _) (.cells #[.int .i64 25, .int .i64 3] 38)).trans (hb6.mono (by simp)) |>.mono B5.out.size))
  have k0 : w6.cell? ⟨w5.heap.size, 0, none⟩ = some (.int .i64 25) := K6.out.cell 0
  have k1 : w6.cell? ⟨w5.heap.size, 1, none⟩ = some (.int .i64 3) := K6.out.cell 1
  clear hb6
  go_wp2_with (fail)
  go_ret
  exact ⟨rfl, B6.out⟩
end Go.Proofs.YtcnjjkmfneeajaaDoor
