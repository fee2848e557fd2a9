/-
  Chapter 47: Table of the program.
-/
import Derived.Test.YtkmkdknjpnkkpaaGreatDoorRow47
set_option linter.unusedSimpArgs false
set_option linter.unusedVariables false
namespace Go.Proofs.YtkmkdknjpnkkpaaGreatDoor
open Go.RowKit
set_option maxRecDepth 100000
set_option maxHeartbeats 1000000
def TbPost (t : Tk) (w : World) (e : Ending) (w' : World) : Prop := ∃ v, e = .returned (.tuple #[v, .int .i64 (TabT t).2]) ∧ ∃ rs, Tab w' w.heap.size v rs ∧ rs.map Rw.l = (TabT t).1 ∧ Below w.heap.size w w'
def TbR (t : Tk) (A W : Option Addr) (c wc : Nat) (w : World) (v i : Value) (wr : World) : Prop := ∃ (k : Nat) (rs : List Rw) (A' : Option Addr) (c' : Nat), k ≤ t.ov.toNat + 1 ∧ i = .int .i64 k ∧ v = .slice A' rs.length c' ∧ rs.map Rw.l = (tabT t).take k ∧ Tab wr (w.heap.size + 1) (.slice A' rs.length c') rs ∧ Blk wr w.heap.size 25 (tkL t A W c wc) ∧ Below w.heap.size w wr
theorem Table_p (t : Tk) (A W : Option Addr) (c wc : Nat) (w : World) (hs : Sm t) (hd : Rd ocE 3 w w.heap.size A t.d) (hw : Rd2 w w.heap.size W t.win) :
    Calls Tryz.prog 19 #[tkV t A W c wc] w (TbPost t w) := by
  unfold TbPost
  obtain ⟨e0, he0⟩ : ∃ e0, ckT t = e0 := ⟨_, rfl⟩
  have HD := Lib.hid hd
  have HW := Lib.hid hw
  have hbk := Blk.new w 25 (tkL t A W c wc)
  have hb0 := cur_new w (.cells (tkL t A W c wc).toArray 25)
  unfold tkL at hbk hb0
  clear hd hw
  by_cases h0 : e0 ≠ 0
  · have e1 : (e0 != 0) = true := by simpa using h0
    have HV := Lib.hid (show TabT t = ([], e0) by unfold TabT; rw [he0, if_pos h0])
    clear h0
    go_enter Tryz.func19, Tryz.ntmps19
    go_wp2_with (go_at_call 15; refine (ckt_p t A W c wc e0 _ hs (HD.out.to hb0) (HW.out.to hb0) he0).mono ?_; rintro e w1 ⟨rfl, hb1⟩; have HB := Lib.hid (cur_step1 hb0 hb1); clear hb1)
    go_ret2
    rw [HV.out]
    exact ⟨_, rfl, [], Tab.nil _ _, rfl, HB.out⟩
  · have h0' : e0 = 0 := by simpa using h0
    subst h0'
    have HV := Lib.hid (show TabT t = (tabT t, 0) by unfold TabT; rw [he0, if_neg h0])
    clear h0
    have hok := okT_of he0
    obtain ⟨hd1, hd2⟩ := hok.d.len
    obtain ⟨z, hz, hzr, hR7, hRm⟩ := most_at hok
    have hd3 : t.d.length - 1 < t.d.length := by omega
    have hd4 : (1 : Int) ≤ (t.d.length : Int) := by omega
    have hd5 : (t.d.length : Int) - 1 < (t.d.length : Int) := by omega
    obtain ⟨hov0, hov1⟩ := hok.ov
    obtain ⟨hld0, hld1⟩ := hok.ld
    have HRow := Lib.hid (show ∀ m : Nat, rowT t m = lstT t m t.ld (mostN t * (t.ov.toNat - m) + 1) from fun m => rfl)
    generalize mostN t = R at *
    have HOK := Lib.hid hok
    have HX := Lib.hid he0
    clear hok he0 hRm
    go_enter Tryz.func19, Tryz.ntmps19
    go_wp2_with fail
    refine (ckt_p t A W c wc 0 _ hs (HD.out.to hb0) (HW.out.to hb0) HX.out).mono ?_
    rintro e w1 ⟨rfl, hb1⟩
    have HB := Lib.hid (cur_step1 hb0 hb1)
    have HK := Lib.hid (hbk.to hb1)
    obtain ⟨t0, t1, t2, t3, t4⟩ := tk_cells (hbk.to hb1)
    obtain ⟨ob, ooff, rfl, hob, hoc⟩ := (HD.out.to HB.out) (t.d.length - 1) z hz
    obtain ⟨c0, c1, c2⟩ := oc_cells hoc
    rw [hzr] at c0
    have l1 : w.heap.size < w1.heap.size := (hbk.to hb1).lt
    clear hb1 hoc hz hzr hbk hb0
    go_wp2_with fail
    go_loopw [6, 25] (TbR t (some ⟨ob, ooff, none⟩) W c wc w) (fun _ i _ => t.ov.toNat + 1 - (intOf i).toNat)
    case atStart => exact ⟨0, [], none, 0, by omega, rfl, rfl, rfl, Tab.nil _ _, HK.out, HB.out⟩
    case round =>
      obtain ⟨k, rs, A', c', hk, rfl, rfl, hrs, htab, hk2, hb⟩ := hrel
      clear HB HK t0 t1 t2 t3 t4 c0 c1 c2 l1
      have HRS := Lib.hid hrs
      have HT := Lib.hid htab
      have HB := Lib.hid hb
      obtain ⟨t0, t1, t2, t3, t4⟩ := tk_cells hk2
      have HK := Lib.hid hk2
      have l1 : w.heap.size < wr.heap.size := hk2.lt
      have hrl : rs.length = k := by
        have := congrArg List.length hrs
        rw [List.length_map, List.length_take, tabT_len] at this
        omega
      clear hrs htab hk2 hb
      by_cases hlt : k < t.ov.toNat + 1
      · have hmul : ∃ P : Nat, (R : Int) * (t.ov - (k : Int)) = (P : Int) ∧ P = R * (t.ov.toNat - k) ∧ P ≤ 77 := by
          refine ⟨R * (t.ov.toNat - k), ?_, rfl, ?_⟩
          · rw [Int.natCast_mul]; congr 1; omega
          · exact Nat.mul_le_mul hR7 (show t.ov.toNat - k ≤ 11 by omega)
        obtain ⟨P, hP1, hP2, hP3⟩ := hmul
        have hp1 : -9223372036854775808 ≤ (R : Int) * (t.ov - (k : Int)) ∧ (R : Int) * (t.ov - (k : Int)) ≤ 9223372036854775800 := by omega
        have hkk : (k : Int) < t.ov + 1 := by omega
        have HP := Lib.hid (And.intro hP1 (And.intro hP2 hP3))
        have HRL := Lib.hid hrl
        clear hP1 hP2 hrl
        go_wp2_with fail
        refine (vals_q t HOK.out _ _ k (P + 1) rfl (by have := HP.out.1; omega) (by omega) (some ⟨ob, ooff, none⟩) W c wc t.ld _ (HD.out.to HB.out) (HW.out.to HB.out) (by omega) (by omega)).mono ?_
        rintro e w4 ⟨lv, rfl, hown, hb4⟩
        obtain ⟨g, cp, rfl⟩ := own_rw hown (by rw [← HP.out.2.1] at *; intro e; have := lstT_len t k t.ld (P + 1); rw [e] at this; simp at this)
        have hrow : lstT t k t.ld (P + 1) = rowT t k := by rw [HRow.out, HP.out.2.1]
        rw [hrow] at hown ⊢
        have HOW := Lib.hid hown
        have HB4 := Lib.hid hb4
        have hw4 := hb4.size
        have hg := (own_blk hown).1
        have hr41 : rs.length ≤ 12 := by have := HRL.out; omega
        clear hown hb4 hrow t0 t1 t2 t3 t4
        go_wp2_with (at_builtin; refine wpList_app1 Tryz.rwElem _ rfl (.tmp 28) (.tmp 41) rfl (w.heap.size + 1) A' c' rs rfl ?o1 ⟨g, cp, rowT t k⟩ w4.heap.size 1 rfl ?o2 ?o3 ?o4 ?o5 ?_)
        case o1 => exact (HT.out.to (cur_step1 HB4.out (cur_new _ _))).own
        case o2 => first | exact heap_alloc_new _ _ | exact (Array.getElem?_eq_some_iff.1 (heap_alloc_new _ _)).2
        case o3 => unfold maxLen; omega
        case o4 => omega
        case o5 => first | omega | (simp; omega)
        intro g2 cap w6 ha
        have hbn := cur_step1 HB4.out (cur_new w4 (.cells (rwE ⟨g, cp, rowT t k⟩).toArray 43))
        have htab2 := HT.out.app hbn (own_below (own_mono HOW.out (by omega)) (cur_new _ _) (Nat.le_refl _)) hg ha
        have hb6 := Below.tabEnd HB.out hbn ha (fun b hb => by have := (own_block_lt HT.out.own hb).1; omega)
        have hk6 : Blk w6 w.heap.size 25 (tkL t (some ⟨ob, ooff, none⟩) W c wc) := by
          have h1 := HK.out.to hbn
          unfold Blk at h1 ⊢
          rw [ha.grown.block w.heap.size (Nat.lt_of_lt_of_le l1 hbn.size) (fun e => by have := (own_block_lt HT.out.own e.symm).1; omega)]
          exact h1
        have HT6 := Lib.hid htab2
        have HB6 := Lib.hid hb6
        have HK6 := Lib.hid hk6
        clear htab2 hb6 hk6 ha hbn
        go_wp2_with fail
        go_roundw
        case rel => exact ⟨k + 1, rs ++ [⟨g, cp, rowT t k⟩], some ⟨g2, 0, none⟩, cap, hlt, by simp, by simp, by rw [List.map_append, HRS.out, tabT_take (by omega)]; rfl, by simpa using HT6.out, HK6.out, HB6.out⟩
        case measure => simp [intOf]; omega
      · have hkk : ¬ ((k : Int) < t.ov + 1) := by omega
        have HRE := Lib.hid (show rs.map Rw.l = tabT t by rw [HRS.out, List.take_of_length_le (by rw [tabT_len]; omega)])
        clear hrl
        go_wp2_with fail
        go_ret2
        rw [HV.out]
        exact ⟨_, rfl, rs, HT.out.mono (by omega), HRE.out, HB.out⟩
end Go.Proofs.YtkmkdknjpnkkpaaGreatDoor
