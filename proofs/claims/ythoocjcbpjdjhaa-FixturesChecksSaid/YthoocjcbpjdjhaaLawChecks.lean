/-
  Chapter 49: the law FixturesChecks: the walk.
-/
import Derived.Test.YthoocjcbpjdjhaaAwake49
import Derived.Test.YthoocjcbpjdjhaaByeR49
import Derived.Test.YthoocjcbpjdjhaaCkR49
namespace Go.Proofs.Ythoocjcbpjdjhaa
open Go.RowKit

def TI (W : World) (i : Value) (wr : World) : Prop := ∃ t : Int, -1 ≤ t ∧ t ≤ 6 ∧ i = .int .i64 t ∧ Below W.heap.size W wr

set_option maxRecDepth 100000 in
set_option maxHeartbeats 2000000 in
theorem law_checks (A : Option Addr) (c : Nat) (l : List Fx) (n : Int) (d : Bool) (w : World) (hl : l.length ≤ 9223372036854775807) (hlc : l.length ≤ c) (hr : Rd fxE 3 w w.heap.size A l) :
    Calls Try.prog 7 #[.slice A l.length c, .int .i64 n, .bool d] w fun e w' => e = .returned (.bool true) ∧ Below w.heap.size w w' := by
  go_enter Try.func7, Try.ntmps7
  go_wp2_with fail
  refine (awake_any _).mono ?_
  rintro e w1 ⟨rfl, hb1⟩
  by_cases h1 : 500 < l.length
  · go_wp2
    go_ret
    exact ⟨rfl, hb1⟩
  go_wp2
  go_loopw [7] (TI w) (fun i _ => (6 - intOf i).toNat)
  case atStart => exact ⟨-1, by omega, by omega, rfl, hb1⟩
  case round =>
    obtain ⟨t, ht0, ht1, rfl, hb⟩ := hrel
    by_cases htn : t ≤ 5
    · go_wp2_with fail
      refine (homes_f A c l t wr hl (hr.to hb)).mono ?_
      rintro e w2 ⟨rfl, hb2⟩
      have hb2 := cur_step1 hb hb2
      go_wp2_with fail
      refine (homes_r A c l t w2 hl (hr.to hb2)).mono ?_
      rintro e w3 ⟨rfl, hb3⟩
      have hb3 := cur_step1 hb2 hb3
      have e1 : (homesL l t != homesL l t) = false := by simp
      go_wp2_with fail
      refine (bye_f A c l n t w3 (by omega) (hr.to hb3)).mono ?_
      rintro e w4 ⟨rfl, hb4⟩
      have hb4 := cur_step1 hb3 hb4
      go_wp2_with fail
      refine (bye_r A c l n t w4 (by omega) (hr.to hb4)).mono ?_
      rintro e w5 ⟨rfl, hb5⟩
      have hb5 := cur_step1 hb4 hb5
      have e2 : (byeL l n t != byeL l n t) = false := by simp
      go_wp2
      go_roundw
      case rel => exact ⟨t + 1, by omega, by omega, rfl, hb5⟩
      case measure => simp [intOf]; omega
    · go_wp2_with fail
      refine (check_f A c l n d wr (by omega) hlc (hr.to hb)).mono ?_
      rintro e w2 ⟨rfl, hb2⟩
      have hb2 := cur_step1 hb hb2
      go_wp2_with fail
      refine (check_r A c l n d w2 (by omega) hlc (hr.to hb2)).mono ?_
      rintro e w3 ⟨rfl, hb3⟩
      have hb3 := cur_step1 hb2 hb3
      have e1 : (checkL l n d == checkL l n d) = true := by simp
      go_wp2
      go_ret
      exact ⟨ret_bool (by simp), hb3⟩
end Go.Proofs.Ythoocjcbpjdjhaa
