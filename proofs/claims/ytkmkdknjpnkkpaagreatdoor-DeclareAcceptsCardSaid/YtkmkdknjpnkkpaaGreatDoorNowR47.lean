/-
  Chapter 47: the same of the reference.
-/
import Derived.Test.YtkmkdknjpnkkpaaGreatDoorNow47
set_option linter.unusedSimpArgs false
set_option linter.unusedVariables false
namespace Go.Proofs.YtkmkdknjpnkkpaaGreatDoor
open Go.RowKit
set_option maxRecDepth 100000
set_option maxHeartbeats 1000000
theorem ck3_r (t : Tk) (A W : Option Addr) (c wc : Nat) (lead m v : Int) (w : World) (hs : Sm t) (hd : Rd ocE 3 w w.heap.size A t.d) (hw : Rd2 w w.heap.size W t.win) (hv : ck3 t lead m = v) :
    Calls Tryz.prog 27 #[tkV t A W c wc, .int .i64 lead, .int .i64 m] w fun e w' => e = .returned (.int .i64 v) ∧ Below w.heap.size w w' := by
  unfold ck3 at hv
  have hbk := Blk.new w 25 (tkL t A W c wc)
  have hb0 := cur_new w (.cells (tkL t A W c wc).toArray 25)
  have HD := Lib.hid hd
  have HW := Lib.hid hw
  clear hd hw
  unfold tkL at hbk hb0
  by_cases h0 : ckT t ≠ 0
  · rw [if_pos h0] at hv
    have e1 : (v != 0) = true := by rw [← hv]; simpa using h0
    have HX := Lib.hid hv
    clear hv h0
    go_enter Tryz.func27, Tryz.ntmps27
    go_wp2_with fail
    refine (ckt_r t A W c wc v _ hs (HD.out.to hb0) (HW.out.to hb0) HX.out).mono ?_
    rintro e w1 ⟨rfl, hb1⟩
    have HB := Lib.hid (cur_step1 hb0 hb1)
    clear hb1
    go_wp2
    go_ret
    exact ⟨rfl, HB.out⟩
  rw [if_neg h0] at hv
  have HX := Lib.hid (show ckT t = 0 by simpa using h0)
  clear h0
  by_cases h1 : m < 0 ∨ t.ov < m ∨ lead < -1200 ∨ 1200 < lead
  all_goals
    first
      | rw [if_pos h1] at hv
      | rw [if_neg h1] at hv
    subst hv
    have H1 := Lib.hid h1
    clear h1
    go_enter Tryz.func27, Tryz.ntmps27
    go_wp2_with fail
    refine (ckt_r t A W c wc 0 _ hs (HD.out.to hb0) (HW.out.to hb0) HX.out).mono ?_
    rintro e w1 ⟨rfl, hb1⟩
    have HB := Lib.hid (cur_step1 hb0 hb1)
    obtain ⟨t0, t1, t2, t3, t4⟩ := tk_cells (hbk.to hb1)
    clear hb1
    go_wp2
    all_goals first
      | (exfalso; have := H1.out; omega)
      | (go_ret; exact ⟨rfl, HB.out⟩)
def UnitR (n : Nat) (w : World) (u i : Value) (wr : World) : Prop := ∃ k : Nat, k ≤ n ∧ i = .int .i64 k ∧ u = .int .i64 (P16 k) ∧ w = wr
theorem unit_r (m : Nat) (w : World) (hm : m ≤ 12) :
    Calls Tryz.prog 45 #[.int .i64 m] w fun e w' => e = .returned (.tuple #[.int .i64 (P16 m), .int .i64 0]) ∧ w = w' := by
  have e0 : decide ((m : Int) < 0) = false := by simp
  have e1 : decide ((12 : Int) < m) = false := by simp; omega
  go_enter Tryz.func45, Tryz.ntmps45
  go_wp2
  go_loopw [4, 12] (UnitR m w) (fun _ i _ => m - (intOf i).toNat)
  case atStart => exact ⟨0, by omega, rfl, rfl, rfl⟩
  case round =>
    obtain ⟨k, hk, rfl, rfl, rfl⟩ := hrel
    by_cases hlt : k < m
    · have h1 := P16_le (show k + 1 ≤ 12 by omega)
      rw [P16_12] at h1
      have h2 := P16_pos k
      have h3 : P16 (k + 1) = 16 * P16 k := rfl
      have hw1 : wrap64 (P16 k * 16) = P16 (k + 1) := by unfold wrap64; omega
      have hw2 : P16 k * 16 = P16 (k + 1) := by omega
      have HW1 := Lib.hid hw1
      have HW2 := Lib.hid hw2
      clear hw1 hw2
      go_wp2
      go_roundw
      case rel => exact ⟨k + 1, hlt, by simp, by first | rw [HW2.out] | rw [HW1.out], rfl⟩
      case measure => simp [intOf]; omega
    · obtain rfl : k = m := by omega
      go_wp2
      go_ret2
      exact ⟨rfl, rfl⟩
theorem now_r (t : Tk) (A W : Option Addr) (c wc : Nat) (lead v : Int) (m : Nat) (w : World) (hok : OkT t) (hm : (m : Int) ≤ t.ov) (hd : Rd ocE 3 w w.heap.size A t.d) (hw : Rd2 w w.heap.size W t.win) (hl : -1000000 ≤ lead ∧ lead ≤ 1000000) (hv : nowT t lead m = v) :
    Calls Tryz.prog 28 #[tkV t A W c wc, .int .i64 lead, .int .i64 m] w fun e w' => e = .returned (.int .i64 v) ∧ Below w.heap.size w w' := by
  have hbd := hok.now hm lead
  unfold nowT at hv
  have hb0 := cur_new w (.cells (tkL t A W c wc).toArray 25)
  unfold tkL at hb0
  by_cases h0 : lead < 0
  · rw [if_pos h0] at hv
    subst hv
    clear hd hw hok
    go_enter Tryz.func28, Tryz.ntmps28
    go_wp2
    go_ret
    exact ⟨rfl, hb0⟩
  rw [if_neg h0] at hv
  obtain ⟨l, i, h1, h2, h3, h4, h5, h6, h7, h8⟩ := hok.elem hm (lead := lead) (by omega)
  obtain ⟨b, off, rfl, hbb, A', c', hcl, hrl⟩ := (hw.below hb0) m l h1
  obtain ⟨b2, off2, rfl, hbb2, hcx⟩ := hrl i _ h6
  have cx := in_cell hcx
  have hsp := hok.sp
  have hov := hok.ov
  have hwl := hok.wl
  have hq0 : 0 ≤ lead / t.sp := Int.ediv_nonneg (by omega) (by omega)
  have h9 : m < t.win.length := by omega
  rw [nowT, if_neg h0, hv] at hbd
  have h10 := P16_le (show m + 1 ≤ 12 by omega)
  rw [P16_12] at h10
  have HSH := Lib.hid hv
  have hv1 : -9223372036854775808 ≤ atW t m lead * P16 m ∧ atW t m lead * P16 m ≤ 9223372036854775807 := by omega
  have hov1 := hov.2
  have hsp1 := hsp.1
  by_cases hq : (l.length : Int) - 1 < lead / t.sp
  · have hi : i = l.length - 1 := by omega
    rw [hi] at cx
    clear hd hw hok h1 h4 h6 hrl hcx hi hbd hwl hv h10
    go_enter Tryz.func28, Tryz.ntmps28
    go_wp2_with (go_at_call 45; refine (unit_r m _ (by omega)).mono ?_; rintro e w1 ⟨rfl, rfl⟩)
    go_ret
    exact ⟨ret_int HSH.out, hb0⟩
  · have hi : i = (lead / t.sp).toNat := by omega
    rw [hi] at cx
    clear hd hw hok h1 h4 h6 hrl hcx hi hbd hwl hv h10
    go_enter Tryz.func28, Tryz.ntmps28
    go_wp2_with (go_at_call 45; refine (unit_r m _ (by omega)).mono ?_; rintro e w1 ⟨rfl, rfl⟩)
    go_ret
    exact ⟨ret_int HSH.out, hb0⟩
end Go.Proofs.YtkmkdknjpnkkpaaGreatDoor
