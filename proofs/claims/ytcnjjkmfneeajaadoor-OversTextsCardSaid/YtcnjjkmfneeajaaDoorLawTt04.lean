/-
  OversTexts: the walk.
-/
import Derived.Test.YtcnjjkmfneeajaaDoorLawTx04
namespace Go.Proofs.YtcnjjkmfneeajaaDoor
open Go.RowKit
set_option maxRecDepth 100000
set_option maxHeartbeats 1000000

theorem law_texts (balls per : Int) (s : ByteArray) (hs : s.size ≤ 9223372036854775807) (w : World) (hw : LibW w) : Calls Tryd.prog 3 #[.int .i64 balls, .int .i64 per, .string s] w fun e w' => e = .returned (.bool true) ∧ Below w.heap.size w w' := by
  obtain ⟨o, n, hof⟩ : ∃ o n, ofP balls per = (o, n) := ⟨_, _, rfl⟩
  obtain ⟨l, y, ht⟩ : ∃ l y, textP balls per = (l, y) := ⟨_, _, rfl⟩
  obtain ⟨m, hm⟩ : ∃ m : Nat, min s.size 40 = m := ⟨_, rfl⟩
  have hm1 : m ≤ s.size := by omega
  have hm2 : m ≤ 40 := by omega
  have hmin : min (s.size : Int) 40 = (m : Nat) := by omega
  obtain ⟨S, hS⟩ : ∃ S, s.extract 0 m = S := ⟨_, rfl⟩
  have hz : S.size ≤ 4294967280 := by rw [← hS]; simp; omega
  obtain ⟨a, b, hp⟩ : ∃ a b, parseP S.data.toList per = (a, b) := ⟨_, _, rfl⟩
  have HOF := Lib.hid hof
  have HT := Lib.hid ht
  have HP := Lib.hid hp
  have HW := Lib.hid hw
  have HS := Lib.hid hS
  have HZ := Lib.hid hz
  clear hof ht hp hw hS hz hm
  go_enter Tryd.func3, Tryd.ntmps3
  go_wp2_with (fail)
  go_at_call 10
  refine (awake_p _ HW.out).mono ?_
  rintro e w1 ⟨rfl, hb1⟩
  have B1 := Lib.hid hb1
  clear hb1
  go_wp2_with (fail)
  go_at_call 11
  refine (of_p _ _ _).mono ?_
  rintro e w2 ⟨rfl, hb2⟩
  rw [HOF.out]
  have B2 := Lib.hid (B1.out.trans (hb2.mono B1.out.size))
  clear hb2
  go_wp2_with (fail)
  go_at_call 12
  refine (of_r _ _ _).mono ?_
  rintro e w3 ⟨rfl, hb3⟩
  rw [HOF.out]
  have B3 := Lib.hid (B2.out.trans (hb3.mono B2.out.size))
  clear hb3
  go_wp2_with (fail)
  go_at_call 13
  refine (text_o _ _ _ (HW.out.to B3.out)).mono ?_
  rintro e w4 ⟨rfl, hb4⟩
  rw [HT.out]
  have B4 := Lib.hid (B3.out.trans (hb4.mono B3.out.size))
  clear hb4
  go_wp2_with (fail)
  go_at_call 14
  refine (text_r _ _ _).mono ?_
  rintro e w5 ⟨rfl, hb5⟩
  rw [HT.out]
  have B5 := Lib.hid (B4.out.trans (hb5.mono B4.out.size))
  clear hb5
  go_wp2_with (fail)
  rw [HS.out]
  go_at_call 15
  refine (parse_o _ HZ.out _ _ (HW.out.to B5.out)).mono ?_
  rintro e w6 ⟨rfl, hb6⟩
  rw [HP.out]
  have B6 := Lib.hid (B5.out.trans (hb6.mono B5.out.size))
  clear hb6
  go_wp2_with (fail)
  go_at_call 16
  refine (parse_r _ HZ.out _ _).mono ?_
  rintro e w7 ⟨rfl, hb7⟩
  rw [HP.out]
  have B7 := Lib.hid (B6.out.trans (hb7.mono B6.out.size))
  clear hb7
  go_wp2_with (fail)
  go_ret
  exact ⟨ret_bool (by simp), B7.out⟩
end Go.Proofs.YtcnjjkmfneeajaaDoor
