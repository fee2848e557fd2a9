/-
  Chapter 47: Now, Value, Stop of the program.
-/
import Derived.Test.YtkmkdknjpnkkpaaGreatDoorVals47
set_option linter.unusedSimpArgs false
set_option linter.unusedVariables false
namespace Go.Proofs.YtkmkdknjpnkkpaaGreatDoor
open Go.RowKit
set_option maxRecDepth 100000
set_option maxHeartbeats 1000000
theorem ck3_ok {t : Tk} {lead m : Int} (h : ck3 t lead m = 0) : OkT t ∧ (0 ≤ m ∧ m ≤ t.ov) ∧ -1200 ≤ lead ∧ lead ≤ 1200 := by
  unfold ck3 at h
  split at h
  · contradiction
  split at h
  · cases h
  rename_i h1 h2
  exact ⟨okT_of (by simpa using h1), by omega, by omega, by omega⟩
def NowT (t : Tk) (lead m : Int) : Int × Int := if ck3 t lead m ≠ 0 then (0, ck3 t lead m) else (nowT t lead m.toNat, 0)
def ValT (t : Tk) (lead m : Int) : Int × Int := if ck3 t lead m ≠ 0 then (0, ck3 t lead m) else (valT t m.toNat lead, 0)
def StopT (t : Tk) (lead m : Int) : Bool × Int := if ck3 t lead m ≠ 0 then (false, ck3 t lead m) else (valT t m.toNat lead == nowT t lead m.toNat, 0)
abbrev twoV (p : Int × Int) : Value := .tuple #[.int .i64 p.1, .int .i64 p.2]
theorem Now_p (t : Tk) (A W : Option Addr) (c wc : Nat) (lead m : Int) (w : World) (hs : Sm t) (hd : Rd ocE 3 w w.heap.size A t.d) (hw : Rd2 w w.heap.size W t.win) :
    Calls Tryz.prog 9 #[tkV t A W c wc, .int .i64 lead, .int .i64 m] w fun e w' => e = .returned (twoV (NowT t lead m)) ∧ Below w.heap.size w w' := by
  obtain ⟨e0, he0⟩ : ∃ e0, ck3 t lead m = e0 := ⟨_, rfl⟩
  obtain ⟨v, hv⟩ : ∃ v, NowT t lead m = v := ⟨_, rfl⟩
  rw [hv]
  unfold NowT at hv
  rw [he0] at hv
  have HD := Lib.hid hd
  have HW := Lib.hid hw
  have hbk := Blk.new w 25 (tkL t A W c wc)
  have hb0 := cur_new w (.cells (tkL t A W c wc).toArray 25)
  unfold tkL at hbk hb0
  clear hd hw
  by_cases h0 : e0 ≠ 0
  · rw [if_pos h0] at hv
    subst hv
    have e1 : (e0 != 0) = true := by simpa using h0
    clear h0
    go_enter Tryz.func9, Tryz.ntmps9
    go_wp2_with (go_at_call 25; refine (ck3_p t A W c wc lead m e0 _ hs (HD.out.to hb0) (HW.out.to hb0) he0).mono ?_; rintro e w1 ⟨rfl, hb1⟩; have HB := Lib.hid (cur_step1 hb0 hb1); obtain ⟨t0, t1, t2, t3, t4⟩ := tk_cells (hbk.to hb1); clear hb1)
    go_ret2
    exact ⟨rfl, HB.out⟩
  · have h0' : e0 = 0 := by simpa using h0
    subst h0'
    rw [if_neg h0] at hv
    subst hv
    clear h0
    obtain ⟨hok, ⟨hm0, hm1⟩, hl0, hl1⟩ := ck3_ok he0
    obtain ⟨M, rfl⟩ : ∃ M : Nat, m = M := ⟨m.toNat, by omega⟩
    rw [Int.toNat_natCast]
    go_enter Tryz.func9, Tryz.ntmps9
    go_wp2_with (first
      | (go_at_call 25; refine (ck3_p t A W c wc lead M 0 _ hs (HD.out.to hb0) (HW.out.to hb0) he0).mono ?_; rintro e w1 ⟨rfl, hb1⟩; have HB := Lib.hid (cur_step1 hb0 hb1); obtain ⟨t0, t1, t2, t3, t4⟩ := tk_cells (hbk.to hb1); clear hb1)
      | (go_at_call 26; refine (now_p t A W c wc lead _ M _ hok hm1 (HD.out.to HB.out) (HW.out.to HB.out) (by omega) rfl).mono ?_; rintro e w2 ⟨rfl, hb2⟩; have HB2 := Lib.hid (cur_step1 HB.out hb2); clear hb2))
    go_ret2
    exact ⟨rfl, HB2.out⟩
theorem Value_p (t : Tk) (A W : Option Addr) (c wc : Nat) (lead m : Int) (w : World) (hs : Sm t) (hd : Rd ocE 3 w w.heap.size A t.d) (hw : Rd2 w w.heap.size W t.win) :
    Calls Tryz.prog 11 #[tkV t A W c wc, .int .i64 lead, .int .i64 m] w fun e w' => e = .returned (twoV (ValT t lead m)) ∧ Below w.heap.size w w' := by
  obtain ⟨e0, he0⟩ : ∃ e0, ck3 t lead m = e0 := ⟨_, rfl⟩
  obtain ⟨v, hv⟩ : ∃ v, ValT t lead m = v := ⟨_, rfl⟩
  rw [hv]
  unfold ValT at hv
  rw [he0] at hv
  have HD := Lib.hid hd
  have HW := Lib.hid hw
  have hbk := Blk.new w 25 (tkL t A W c wc)
  have hb0 := cur_new w (.cells (tkL t A W c wc).toArray 25)
  unfold tkL at hbk hb0
  clear hd hw
  by_cases h0 : e0 ≠ 0
  · rw [if_pos h0] at hv
    subst hv
    have e1 : (e0 != 0) = true := by simpa using h0
    clear h0
    go_enter Tryz.func11, Tryz.ntmps11
    go_wp2_with (go_at_call 25; refine (ck3_p t A W c wc lead m e0 _ hs (HD.out.to hb0) (HW.out.to hb0) he0).mono ?_; rintro e w1 ⟨rfl, hb1⟩; have HB := Lib.hid (cur_step1 hb0 hb1); obtain ⟨t0, t1, t2, t3, t4⟩ := tk_cells (hbk.to hb1); clear hb1)
    go_ret2
    exact ⟨rfl, HB.out⟩
  · have h0' : e0 = 0 := by simpa using h0
    subst h0'
    rw [if_neg h0] at hv
    subst hv
    clear h0
    obtain ⟨hok, ⟨hm0, hm1⟩, hl0, hl1⟩ := ck3_ok he0
    obtain ⟨M, rfl⟩ : ∃ M : Nat, m = M := ⟨m.toNat, by omega⟩
    rw [Int.toNat_natCast]
    have hov2 := hok.ov
    have HV1 := Lib.hid (show ∀ (v : Value) (w2 : World), OwnL inE 1 2 w2.heap.size w2 v (lstT t M lead 1) → True from fun _ _ _ => trivial)
    go_enter Tryz.func11, Tryz.ntmps11
    go_wp2_with (first
      | (go_at_call 25; refine (ck3_p t A W c wc lead M 0 _ hs (HD.out.to hb0) (HW.out.to hb0) he0).mono ?_; rintro e w1 ⟨rfl, hb1⟩; have HB := Lib.hid (cur_step1 hb0 hb1); obtain ⟨t0, t1, t2, t3, t4⟩ := tk_cells (hbk.to hb1); clear hb1)
      | (go_at_call 29; refine (vals_p t hok M hm1 A W c wc lead 1 _ (HD.out.to HB.out) (HW.out.to HB.out) (by omega) (by omega)).mono ?_; rintro e w2 ⟨lv, rfl, hown, hb2⟩; obtain ⟨LA, lc, rfl, hrd, hz⟩ := OwnL.rd inE_len hown; have HB2 := Lib.hid (cur_step1 HB.out hb2); obtain ⟨lb, loff, rfl, _, hlc⟩ := hrd 0 (valT t M (lead + ((0 : Nat) : Int))) (lstT_at (by omega)); have cl := in_cell hlc; obtain ⟨_, rfl⟩ := hz lb loff rfl; rw [Nat.add_zero, Int.ofNat_zero, Int.add_zero] at cl; rw [lstT_len]; clear hb2 hown hrd hlc hz))
    go_ret2
    exact ⟨rfl, HB2.out⟩
theorem Stop_p (t : Tk) (A W : Option Addr) (c wc : Nat) (lead m : Int) (w : World) (hs : Sm t) (hd : Rd ocE 3 w w.heap.size A t.d) (hw : Rd2 w w.heap.size W t.win) :
    Calls Tryz.prog 13 #[tkV t A W c wc, .int .i64 lead, .int .i64 m] w fun e w' => e = .returned (.tuple #[.bool (StopT t lead m).1, .int .i64 (StopT t lead m).2]) ∧ Below w.heap.size w w' := by
  obtain ⟨e0, he0⟩ : ∃ e0, ck3 t lead m = e0 := ⟨_, rfl⟩
  obtain ⟨v, hv⟩ : ∃ v, StopT t lead m = v := ⟨_, rfl⟩
  rw [hv]
  unfold StopT at hv
  rw [he0] at hv
  have HD := Lib.hid hd
  have HW := Lib.hid hw
  have hbk := Blk.new w 25 (tkL t A W c wc)
  have hb0 := cur_new w (.cells (tkL t A W c wc).toArray 25)
  unfold tkL at hbk hb0
  clear hd hw
  by_cases h0 : e0 ≠ 0
  · rw [if_pos h0] at hv
    subst hv
    have e1 : (e0 != 0) = true := by simpa using h0
    have HVV := Lib.hid (show ValT t lead m = (0, e0) by unfold ValT; rw [he0, if_pos h0])
    clear h0
    go_enter Tryz.func13, Tryz.ntmps13
    go_wp2_with (go_at_call 11; refine (Value_p t A W c wc lead m _ hs (HD.out.to hb0) (HW.out.to hb0)).mono ?_; rintro e w1 ⟨rfl, hb1⟩; rw [HVV.out]; have HB := Lib.hid (cur_step1 hb0 hb1); obtain ⟨t0, t1, t2, t3, t4⟩ := tk_cells (hbk.to hb1); clear hb1)
    go_ret2
    exact ⟨rfl, HB.out⟩
  · have h0' : e0 = 0 := by simpa using h0
    subst h0'
    rw [if_neg h0] at hv
    subst hv
    obtain ⟨hok, ⟨hm0, hm1⟩, hl0, hl1⟩ := ck3_ok he0
    obtain ⟨M, rfl⟩ : ∃ M : Nat, m = M := ⟨m.toNat, by omega⟩
    rw [Int.toNat_natCast]
    have HVV := Lib.hid (show ValT t lead M = (valT t M lead, 0) by unfold ValT; rw [he0, if_neg h0, Int.toNat_natCast])
    clear h0
    go_enter Tryz.func13, Tryz.ntmps13
    go_wp2_with (first
      | (go_at_call 11; refine (Value_p t A W c wc lead M _ hs (HD.out.to hb0) (HW.out.to hb0)).mono ?_; rintro e w1 ⟨rfl, hb1⟩; rw [HVV.out]; have HB := Lib.hid (cur_step1 hb0 hb1); obtain ⟨t0, t1, t2, t3, t4⟩ := tk_cells (hbk.to hb1); clear hb1)
      | (go_at_call 26; refine (now_p t A W c wc lead _ M _ hok hm1 (HD.out.to HB.out) (HW.out.to HB.out) (by omega) rfl).mono ?_; rintro e w2 ⟨rfl, hb2⟩; have HB2 := Lib.hid (cur_step1 HB.out hb2); clear hb2))

    go_ret2
    exact ⟨rfl, HB2.out⟩
end Go.Proofs.YtkmkdknjpnkkpaaGreatDoor
