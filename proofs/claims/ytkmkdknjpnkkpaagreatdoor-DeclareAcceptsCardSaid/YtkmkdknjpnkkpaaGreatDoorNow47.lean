/-
  Chapter 47: the check of a lead and a number of overs; the weight of a declaration.
-/
import Derived.Test.YtkmkdknjpnkkpaaGreatDoorCkTR47
set_option linter.unusedSimpArgs false
set_option linter.unusedVariables false
namespace Go.Proofs.YtkmkdknjpnkkpaaGreatDoor
open Go.RowKit
set_option maxRecDepth 100000
set_option maxHeartbeats 1000000
theorem P16_pow (m : Nat) : P16 m = 2 ^ (4 * m) := by
  induction m with
  | zero => rfl
  | succ m ih => rw [P16, ih, show 4 * (m + 1) = 4 * m + 4 by omega, Int.pow_add]; omega
theorem ck3_p (t : Tk) (A W : Option Addr) (c wc : Nat) (lead m v : Int) (w : World) (hs : Sm t) (hd : Rd ocE 3 w w.heap.size A t.d) (hw : Rd2 w w.heap.size W t.win) (hv : ck3 t lead m = v) :
    Calls Tryz.prog 25 #[tkV t A W c wc, .int .i64 lead, .int .i64 m] w fun e w' => e = .returned (.int .i64 v) ∧ Below w.heap.size w w' := by
  unfold ck3 at hv
  have hbk := Blk.new w 25 (tkL t A W c wc)
  have hb0 := cur_new w (.cells (tkL t A W c wc).toArray 25)
  have HD := Lib.hid hd
  have HW := Lib.hid hw
  clear hd hw
  unfold tkL at hbk hb0
  by_cases h0 : ckT t ≠ 0
  · rw [if_pos h0] at hv
    have e1 : (v != 0) = true := by rw [← hv]; simpa using h0
    have HX := Lib.hid hv
    clear hv h0
    go_enter Tryz.func25, Tryz.ntmps25
    go_wp2_with fail
    refine (ckt_p t A W c wc v _ hs (HD.out.to hb0) (HW.out.to hb0) HX.out).mono ?_
    rintro e w1 ⟨rfl, hb1⟩
    have HB := Lib.hid (cur_step1 hb0 hb1)
    clear hb1
    go_wp2
    go_ret
    exact ⟨rfl, HB.out⟩
  rw [if_neg h0] at hv
  have HX := Lib.hid (show ckT t = 0 by simpa using h0)
  clear h0
  by_cases h1 : m < 0 ∨ t.ov < m ∨ lead < -1200 ∨ 1200 < lead
  all_goals
    first
      | rw [if_pos h1] at hv
      | rw [if_neg h1] at hv
    subst hv
    have H1 := Lib.hid h1
    clear h1
    go_enter Tryz.func25, Tryz.ntmps25
    go_wp2_with fail
    refine (ckt_p t A W c wc 0 _ hs (HD.out.to hb0) (HW.out.to hb0) HX.out).mono ?_
    rintro e w1 ⟨rfl, hb1⟩
    have HB := Lib.hid (cur_step1 hb0 hb1)
    obtain ⟨t0, t1, t2, t3, t4⟩ := tk_cells (hbk.to hb1)
    clear hb1
    go_wp2
    all_goals first
      | (exfalso; have := H1.out; omega)
      | (go_ret; exact ⟨rfl, HB.out⟩)
theorem now_p (t : Tk) (A W : Option Addr) (c wc : Nat) (lead v : Int) (m : Nat) (w : World) (hok : OkT t) (hm : (m : Int) ≤ t.ov) (hd : Rd ocE 3 w w.heap.size A t.d) (hw : Rd2 w w.heap.size W t.win) (hl : -1000000 ≤ lead ∧ lead ≤ 1000000) (hv : nowT t lead m = v) :
    Calls Tryz.prog 26 #[tkV t A W c wc, .int .i64 lead, .int .i64 m] w fun e w' => e = .returned (.int .i64 v) ∧ Below w.heap.size w w' := by
  have hbd := hok.now hm lead
  unfold nowT at hv
  have hb0 := cur_new w (.cells (tkL t A W c wc).toArray 25)
  unfold tkL at hb0
  by_cases h0 : lead < 0
  · rw [if_pos h0] at hv
    subst hv
    clear hd hw hok
    go_enter Tryz.func26, Tryz.ntmps26
    go_wp2
    go_ret
    exact ⟨rfl, hb0⟩
  rw [if_neg h0] at hv
  obtain ⟨l, i, h1, h2, h3, h4, h5, h6, h7, h8⟩ := hok.elem hm (lead := lead) (by omega)
  obtain ⟨b, off, rfl, hbb, A', c', hcl, hrl⟩ := (hw.below hb0) m l h1
  obtain ⟨b2, off2, rfl, hbb2, hcx⟩ := hrl i _ h6
  have cx := in_cell hcx
  have hsp := hok.sp
  have hov := hok.ov
  have hwl := hok.wl
  have hq0 : 0 ≤ lead / t.sp := Int.ediv_nonneg (by omega) (by omega)
  have h9 : m < t.win.length := by omega
  have hsh : wrap64 (atW t m lead * 2 ^ (4 * m)) = v := by
    rw [← P16_pow, hv]
    have h10 := P16_le (show m + 1 ≤ 12 by omega)
    rw [P16_12] at h10
    rw [nowT, if_neg h0, hv] at hbd
    unfold wrap64; omega
  have HSH := Lib.hid hsh
  have hov1 := hov.2
  have hsp1 := hsp.1
  by_cases hq : (l.length : Int) - 1 < lead / t.sp
  · have hi : i = l.length - 1 := by omega
    rw [hi] at cx
    clear hd hw hok h1 h4 h6 hrl hcx hi hbd hwl hsh hv
    go_enter Tryz.func26, Tryz.ntmps26
    go_wp2
    go_ret
    exact ⟨ret_int HSH.out, hb0⟩
  · have hi : i = (lead / t.sp).toNat := by omega
    rw [hi] at cx
    clear hd hw hok h1 h4 h6 hrl hcx hi hbd hwl hsh hv
    go_enter Tryz.func26, Tryz.ntmps26
    go_wp2
    go_ret
    exact ⟨ret_int HSH.out, hb0⟩
end Go.Proofs.YtkmkdknjpnkkpaaGreatDoor
