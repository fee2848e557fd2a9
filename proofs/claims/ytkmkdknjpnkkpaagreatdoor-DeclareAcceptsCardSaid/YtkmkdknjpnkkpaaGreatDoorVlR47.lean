/-
  Chapter 47: Now, Value, Stop of the reference.
-/
import Derived.Test.YtkmkdknjpnkkpaaGreatDoorVal47
import Derived.Test.YtkmkdknjpnkkpaaGreatDoorValR47
set_option linter.unusedSimpArgs false
set_option linter.unusedVariables false
namespace Go.Proofs.YtkmkdknjpnkkpaaGreatDoor
open Go.RowKit
set_option maxRecDepth 100000
set_option maxHeartbeats 1000000
theorem Now_r (t : Tk) (A W : Option Addr) (c wc : Nat) (lead m : Int) (w : World) (hs : Sm t) (hd : Rd ocE 3 w w.heap.size A t.d) (hw : Rd2 w w.heap.size W t.win) :
    Calls Tryz.prog 10 #[tkV t A W c wc, .int .i64 lead, .int .i64 m] w fun e w' => e = .returned (twoV (NowT t lead m)) ∧ Below w.heap.size w w' := by
  obtain ⟨e0, he0⟩ : ∃ e0, ck3 t lead m = e0 := ⟨_, rfl⟩
  obtain ⟨v, hv⟩ : ∃ v, NowT t lead m = v := ⟨_, rfl⟩
  rw [hv]
  unfold NowT at hv
  rw [he0] at hv
  have HD := Lib.hid hd
  have HW := Lib.hid hw
  have hbk := Blk.new w 25 (tkL t A W c wc)
  have hb0 := cur_new w (.cells (tkL t A W c wc).toArray 25)
  unfold tkL at hbk hb0
  clear hd hw
  by_cases h0 : e0 ≠ 0
  · rw [if_pos h0] at hv
    subst hv
    have e1 : (e0 != 0) = true := by simpa using h0
    clear h0
    go_enter Tryz.func10, Tryz.ntmps10
    go_wp2_with (go_at_call 27; refine (ck3_r t A W c wc lead m e0 _ hs (HD.out.to hb0) (HW.out.to hb0) he0).mono ?_; rintro e w1 ⟨rfl, hb1⟩; have HB := Lib.hid (cur_step1 hb0 hb1); obtain ⟨t0, t1, t2, t3, t4⟩ := tk_cells (hbk.to hb1); clear hb1)
    go_ret2
    exact ⟨rfl, HB.out⟩
  · have h0' : e0 = 0 := by simpa using h0
    subst h0'
    rw [if_neg h0] at hv
    subst hv
    clear h0
    obtain ⟨hok, ⟨hm0, hm1⟩, hl0, hl1⟩ := ck3_ok he0
    obtain ⟨M, rfl⟩ : ∃ M : Nat, m = M := ⟨m.toNat, by omega⟩
    rw [Int.toNat_natCast]
    go_enter Tryz.func10, Tryz.ntmps10
    go_wp2_with (first
      | (go_at_call 27; refine (ck3_r t A W c wc lead M 0 _ hs (HD.out.to hb0) (HW.out.to hb0) he0).mono ?_; rintro e w1 ⟨rfl, hb1⟩; have HB := Lib.hid (cur_step1 hb0 hb1); obtain ⟨t0, t1, t2, t3, t4⟩ := tk_cells (hbk.to hb1); clear hb1)
      | (go_at_call 28; refine (now_r t A W c wc lead _ M _ hok hm1 (HD.out.to HB.out) (HW.out.to HB.out) (by omega) rfl).mono ?_; rintro e w2 ⟨rfl, hb2⟩; have HB2 := Lib.hid (cur_step1 HB.out hb2); clear hb2))
    go_ret2
    exact ⟨rfl, HB2.out⟩
theorem Value_r (t : Tk) (A W : Option Addr) (c wc : Nat) (lead m : Int) (w : World) (hs : Sm t) (hd : Rd ocE 3 w w.heap.size A t.d) (hw : Rd2 w w.heap.size W t.win) :
    Calls Tryz.prog 12 #[tkV t A W c wc, .int .i64 lead, .int .i64 m] w fun e w' => e = .returned (twoV (ValT t lead m)) ∧ Below w.heap.size w w' := by
  obtain ⟨e0, he0⟩ : ∃ e0, ck3 t lead m = e0 := ⟨_, rfl⟩
  obtain ⟨v, hv⟩ : ∃ v, ValT t lead m = v := ⟨_, rfl⟩
  rw [hv]
  unfold ValT at hv
  rw [he0] at hv
  have HD := Lib.hid hd
  have HW := Lib.hid hw
  have hbk := Blk.new w 25 (tkL t A W c wc)
  have hb0 := cur_new w (.cells (tkL t A W c wc).toArray 25)
  unfold tkL at hbk hb0
  clear hd hw
  by_cases h0 : e0 ≠ 0
  · rw [if_pos h0] at hv
    subst hv
    have e1 : (e0 != 0) = true := by simpa using h0
    clear h0
    go_enter Tryz.func12, Tryz.ntmps12
    go_wp2_with (go_at_call 27; refine (ck3_r t A W c wc lead m e0 _ hs (HD.out.to hb0) (HW.out.to hb0) he0).mono ?_; rintro e w1 ⟨rfl, hb1⟩; have HB := Lib.hid (cur_step1 hb0 hb1); obtain ⟨t0, t1, t2, t3, t4⟩ := tk_cells (hbk.to hb1); clear hb1)
    go_ret2
    exact ⟨rfl, HB.out⟩
  · have h0' : e0 = 0 := by simpa using h0
    subst h0'
    rw [if_neg h0] at hv
    subst hv
    clear h0
    obtain ⟨hok, ⟨hm0, hm1⟩, hl0, hl1⟩ := ck3_ok he0
    obtain ⟨M, rfl⟩ : ∃ M : Nat, m = M := ⟨m.toNat, by omega⟩
    rw [Int.toNat_natCast]
    have hov2 := hok.ov
    have hmk : ∀ w, Sem.run Tryz.prog (Instr.makeMap 51 none) w = .ok (.map (some w.heap.size)) (w.alloc (.map #[] 0)) := fun w => run_makeMap _ w
    go_enter Tryz.func12, Tryz.ntmps12
    go_wp2_with (first
      | (go_at_call 27; refine (ck3_r t A W c wc lead M 0 _ hs (HD.out.to hb0) (HW.out.to hb0) he0).mono ?_; rintro e w1 ⟨rfl, hb1⟩; have HB := Lib.hid (cur_step1 hb0 hb1); obtain ⟨t0, t1, t2, t3, t4⟩ := tk_cells (hbk.to hb1); clear hb1)
      | (go_at_call 30; refine (val_all t hok M hm1 A W c wc lead _ [] _ ⟨w.heap.size, by have := HB.out.size; simp; omega, HD.out.below (HB.out.trans ((cur_new w1 _).mono HB.out.size)), HW.out.below (HB.out.trans ((cur_new w1 _).mono HB.out.size))⟩ (by omega) (Memo.made _ _)).mono ?_; rintro e w2 ⟨rfl, _, hb2⟩; have HB2 := Lib.hid (hb2.below w.heap.size w (HB.out.trans ((cur_new w1 _).mono HB.out.size)) (by have := HB.out.size; omega)); clear hb2))
    go_ret2
    exact ⟨rfl, HB2.out⟩
theorem Stop_r (t : Tk) (A W : Option Addr) (c wc : Nat) (lead m : Int) (w : World) (hs : Sm t) (hd : Rd ocE 3 w w.heap.size A t.d) (hw : Rd2 w w.heap.size W t.win) :
    Calls Tryz.prog 14 #[tkV t A W c wc, .int .i64 lead, .int .i64 m] w fun e w' => e = .returned (.tuple #[.bool (StopT t lead m).1, .int .i64 (StopT t lead m).2]) ∧ Below w.heap.size w w' := by
  obtain ⟨e0, he0⟩ : ∃ e0, ck3 t lead m = e0 := ⟨_, rfl⟩
  obtain ⟨v, hv⟩ : ∃ v, StopT t lead m = v := ⟨_, rfl⟩
  rw [hv]
  unfold StopT at hv
  rw [he0] at hv
  have HD := Lib.hid hd
  have HW := Lib.hid hw
  have hbk := Blk.new w 25 (tkL t A W c wc)
  have hb0 := cur_new w (.cells (tkL t A W c wc).toArray 25)
  unfold tkL at hbk hb0
  clear hd hw
  by_cases h0 : e0 ≠ 0
  · rw [if_pos h0] at hv
    subst hv
    have e1 : (e0 != 0) = true := by simpa using h0
    have e2 : (e0 == 0) = false := by simpa using h0
    have HVV := Lib.hid (show ValT t lead m = (0, e0) by unfold ValT; rw [he0, if_pos h0])
    clear h0
    go_enter Tryz.func14, Tryz.ntmps14
    go_wp2_with (go_at_call 12; refine (Value_r t A W c wc lead m _ hs (HD.out.to hb0) (HW.out.to hb0)).mono ?_; rintro e w1 ⟨rfl, hb1⟩; rw [HVV.out]; have HB := Lib.hid (cur_step1 hb0 hb1); obtain ⟨t0, t1, t2, t3, t4⟩ := tk_cells (hbk.to hb1); clear hb1)
    go_ret2
    exact ⟨rfl, HB.out⟩
  · have h0' : e0 = 0 := by simpa using h0
    subst h0'
    rw [if_neg h0] at hv
    subst hv
    obtain ⟨hok, ⟨hm0, hm1⟩, hl0, hl1⟩ := ck3_ok he0
    obtain ⟨M, rfl⟩ : ∃ M : Nat, m = M := ⟨m.toNat, by omega⟩
    rw [Int.toNat_natCast]
    have HVV := Lib.hid (show ValT t lead M = (valT t M lead, 0) by unfold ValT; rw [he0, if_neg h0, Int.toNat_natCast])
    clear h0
    go_enter Tryz.func14, Tryz.ntmps14
    go_wp2_with (first
      | (go_at_call 12; refine (Value_r t A W c wc lead M _ hs (HD.out.to hb0) (HW.out.to hb0)).mono ?_; rintro e w1 ⟨rfl, hb1⟩; rw [HVV.out]; have HB := Lib.hid (cur_step1 hb0 hb1); obtain ⟨t0, t1, t2, t3, t4⟩ := tk_cells (hbk.to hb1); clear hb1)
      | (go_at_call 28; refine (now_r t A W c wc lead _ M _ hok hm1 (HD.out.to HB.out) (HW.out.to HB.out) (by omega) rfl).mono ?_; rintro e w2 ⟨rfl, hb2⟩; have HB2 := Lib.hid (cur_step1 HB.out hb2); clear hb2))

    go_ret2
    exact ⟨rfl, HB2.out⟩
end Go.Proofs.YtkmkdknjpnkkpaaGreatDoor
