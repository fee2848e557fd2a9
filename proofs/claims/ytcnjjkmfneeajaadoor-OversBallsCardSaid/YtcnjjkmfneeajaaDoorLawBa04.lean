/-
  OversBalls: the walk.
-/
import Derived.Test.YtcnjjkmfneeajaaDoorAwk04
namespace Go.Proofs.YtcnjjkmfneeajaaDoor
open Go.RowKit
set_option maxRecDepth 100000
set_option maxHeartbeats 1000000

theorem law_balls (a b c : Int) (w : World) (hw : LibW w) : Calls Tryd.prog 5 #[.int .i64 a, .int .i64 b, .int .i64 c] w fun e w' => e = .returned (.bool true) ∧ Below w.heap.size w w' := by
  obtain ⟨x, y, hv⟩ : ∃ x y, ballsP a b c = (x, y) := ⟨_, _, rfl⟩
  have HV := Lib.hid hv
  have HW := Lib.hid hw
  clear hw hv
  go_enter Tryd.func5, Tryd.ntmps5
  go_wp2_with (fail)
  go_at_call 10
  refine (awake_p _ HW.out).mono ?_
  rintro e w1 ⟨rfl, hb1⟩
  have B1 := Lib.hid hb1
  clear hb1
  go_wp2_with (fail)
  go_at_call 19
  refine (balls_p _ _ _ _).mono ?_
  rintro e w2 ⟨rfl, hb2⟩
  rw [HV.out]
  have B2 := Lib.hid (B1.out.trans (hb2.mono B1.out.size))
  clear hb2
  go_wp2_with (fail)
  go_at_call 20
  refine (balls_r _ _ _ _).mono ?_
  rintro e w3 ⟨rfl, hb3⟩
  rw [HV.out]
  have B3 := Lib.hid (B2.out.trans (hb3.mono B2.out.size))
  clear hb3
  go_wp2_with (fail)
  go_ret
  exact ⟨rfl, B3.out⟩
end Go.Proofs.YtcnjjkmfneeajaaDoor
