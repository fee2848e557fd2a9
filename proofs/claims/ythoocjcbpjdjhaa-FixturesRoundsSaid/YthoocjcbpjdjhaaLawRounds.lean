/-
  Chapter 49: the law FixturesRounds: the walk.
-/
import Derived.Test.YthoocjcbpjdjhaaAwake49
namespace Go.Proofs.Ythoocjcbpjdjhaa
open Go.RowKit

set_option maxHeartbeats 1000000 in
theorem law_rounds (n : Int) (d : Bool) (w : World) : Calls Try.prog 3 #[.int .i64 n, .bool d] w fun e w' => e = .returned (.bool true) ∧ Below w.heap.size w w' := by
  by_cases hn : 2 ≤ n ∧ n ≤ 20
  · obtain ⟨hn1, hn2⟩ := hn
    go_enter Try.func3, Try.ntmps3
    go_wp2_with fail
    refine (awake_any w).mono ?_
    rintro e w1 ⟨rfl, hb1⟩
    have HB1 := Lib.hid hb1
    clear hb1
    go_wp2_with fail
    refine (rounds_good n d w1 hn1 hn2).mono ?_
    rintro e w2 ⟨v, rfl, hown, hb2⟩
    obtain ⟨A, c, rfl, hrd, hbase⟩ := hown.rd fxE_len
    have HB2 := Lib.hid (cur_step1 HB1.out hb2)
    have HR := Lib.hid hrd
    clear hown hb2 hrd hbase
    go_wp2_with fail
    refine (roundsR_good n d w2 hn1 hn2).mono ?_
    rintro e w3 ⟨v, rfl, hown, hb3⟩
    obtain ⟨B, c', rfl, hrd, hbase⟩ := hown.rd fxE_len
    have HB3 := Lib.hid (cur_step1 HB2.out hb3)
    have HR2 := Lib.hid (HR.out.to hb3)
    have HS := Lib.hid hrd
    clear hown hb3 hrd hbase
    have hlen := rounds_len n d hn2
    go_wp2_with fail
    refine (equal_any A B c c' _ _ w3 (by omega) (by omega) HR2.out HS.out).mono ?_
    rintro e w4 ⟨rfl, hb4⟩
    have HB4 := Lib.hid (cur_step1 HB3.out hb4)
    have hd : decide (roundsL n d = roundsL n d) = true := by simp
    clear hb4
    go_wp2
    go_ret
    exact ⟨rfl, HB4.out⟩
  · have hn : n < 2 ∨ 20 < n := by omega
    go_enter Try.func3, Try.ntmps3
    go_wp2_with fail
    refine (awake_any w).mono ?_
    rintro e w1 ⟨rfl, hb1⟩
    have HB1 := Lib.hid hb1
    clear hb1
    go_wp2_with fail
    refine (rounds_bad n d w1 hn).mono ?_
    rintro e w2 ⟨rfl, hb2⟩
    have HB2 := Lib.hid (cur_step1 HB1.out hb2)
    clear hb2
    go_wp2_with fail
    refine (roundsR_bad n d w2 hn).mono ?_
    rintro e w3 ⟨rfl, hb3⟩
    have HB3 := Lib.hid (cur_step1 HB2.out hb3)
    clear hb3
    go_wp2_with fail
    refine (equal_any none none 0 0 [] [] w3 (by decide) (by decide) Rd.nil_ Rd.nil_).mono ?_
    rintro e w4 ⟨rfl, hb4⟩
    have HB4 := Lib.hid (cur_step1 HB3.out hb4)
    clear hb4
    go_wp2
    go_ret
    exact ⟨rfl, HB4.out⟩
end Go.Proofs.Ythoocjcbpjdjhaa
