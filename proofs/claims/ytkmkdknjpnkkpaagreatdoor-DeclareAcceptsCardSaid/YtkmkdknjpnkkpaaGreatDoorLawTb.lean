/-
  Chapter 47: the law DeclareTables: the walk.
-/
import Derived.Test.YtkmkdknjpnkkpaaGreatDoorLawDv
import Derived.Test.YtkmkdknjpnkkpaaGreatDoorAcc47
import Derived.Test.YtkmkdknjpnkkpaaGreatDoorTabR47
set_option linter.unusedSimpArgs false
set_option linter.unusedVariables false
namespace Go.Proofs.YtkmkdknjpnkkpaaGreatDoor
open Go.RowKit
set_option maxRecDepth 100000
set_option maxHeartbeats 1000000
theorem accT_self {t : Tk} (h : ckT t = 0) : accT t (tabT t) = 0 := by
  unfold accT
  simp [h]
theorem rowT_le {t : Tk} (hok : OkT t) : (tabT t).length ≤ 12 ∧ ∀ x ∈ tabT t, x.length ≤ 78 := by
  obtain ⟨h0, h1⟩ := hok.ov
  obtain ⟨z, _, _, h7, _⟩ := most_at hok
  refine ⟨by rw [tabT_len]; omega, fun x hx => ?_⟩
  unfold tabT at hx
  obtain ⟨m, _, rfl⟩ := List.mem_map.1 hx
  rw [rowT_len]
  have := Nat.mul_le_mul h7 (show t.ov.toNat - m ≤ 11 by omega)
  omega
theorem law_tb (t : Tk) (A W : Option Addr) (c wc : Nat) (mx : Int) (w : World) (hd : Rd ocE 3 w w.heap.size A t.d) (hw : Rd2 w w.heap.size W t.win) (hm : w.cell? ⟨0, 0, none⟩ = some (.int .i64 mx)) :
    Calls Tryz.prog 5 #[tkV t A W c wc] w fun e w' => e = .returned (.bool true) ∧ Below w.heap.size w w' := by
  have hbk := Blk.new w 25 (tkL t A W c wc)
  have hb0 := cur_new w (.cells (tkL t A W c wc).toArray 25)
  have HM := Lib.hid ((hb0.cell (p := ⟨0, 0, none⟩) (Lib.lt_of_cell hm)).trans hm)
  unfold tkL at hbk hb0 HM
  have HD := Lib.hid hd
  have HW := Lib.hid hw
  clear hd hw hm
  cases hs : smB t
  · have HS := Lib.hid hs
    clear hs
    go_enter Tryz.func5, Tryz.ntmps5
    go_wp2_with fail
    refine (awake_d mx _ HM.out).mono ?_
    rintro e w1 ⟨rfl, hb1⟩
    have HB1 := Lib.hid (cur_step1 hb0 hb1)
    obtain ⟨t0, t1, t2, t3, t4⟩ := tk_cells (hbk.to hb1)
    clear hb1
    go_wp2_with fail
    refine (small_f t A W c wc false _ (HW.out.to HB1.out) HS.out).mono ?_
    rintro e w2 ⟨rfl, hb2⟩
    have HB2 := Lib.hid (cur_step1 HB1.out hb2)
    clear hb2
    go_wp2_with fail
    go_ret
    exact ⟨rfl, HB2.out⟩
  · have HS := Lib.hid hs
    have hsm := sm_of hs
    clear hs
    obtain ⟨e0, he0⟩ : ∃ e0, ckT t = e0 := ⟨_, rfl⟩
    have HE0 := Lib.hid he0
    clear he0
    go_enter Tryz.func5, Tryz.ntmps5
    go_wp2_with fail
    refine (awake_d mx _ HM.out).mono ?_
    rintro e w1 ⟨rfl, hb1⟩
    have HB1 := Lib.hid (cur_step1 hb0 hb1)
    have HK1 := Lib.hid (hbk.to hb1)
    obtain ⟨t0, t1, t2, t3, t4⟩ := tk_cells HK1.out
    clear hb1
    go_wp2_with fail
    refine (small_f t A W c wc true _ (HW.out.to HB1.out) HS.out).mono ?_
    rintro e w2 ⟨rfl, hb2⟩
    have HB2 := Lib.hid (cur_step1 HB1.out hb2)
    have HK2 := Lib.hid (HK1.out.to hb2)
    clear hb2 t0 t1 t2 t3 t4 HK1
    obtain ⟨t0, t1, t2, t3, t4⟩ := tk_cells HK2.out
    go_wp2_with fail
    refine (Table_p t A W c wc _ hsm (HD.out.to HB2.out) (HW.out.to HB2.out)).mono ?_
    rintro e w3 ⟨tv, rfl, rs, htab, hrs, hb3⟩
    have HB3 := Lib.hid (cur_step1 HB2.out hb3)
    have HK3 := Lib.hid (HK2.out.to hb3)
    have HT3 := Lib.hid htab
    have HR3 := Lib.hid hrs
    clear hb3 t0 t1 t2 t3 t4 HK2 htab hrs
    obtain ⟨t0, t1, t2, t3, t4⟩ := tk_cells HK3.out
    go_wp2_with fail
    refine (Table_r t A W c wc _ hsm (HD.out.to HB3.out) (HW.out.to HB3.out)).mono ?_
    rintro e w4 ⟨tv2, rfl, rs2, htab2, hrs2, hb4⟩
    have HB4 := Lib.hid (cur_step1 HB3.out hb4)
    have HK4 := Lib.hid (HK3.out.to hb4)
    have HT4 := Lib.hid (HT3.out.to hb4)
    clear hb4 t0 t1 t2 t3 t4 HK3 HT3
    obtain ⟨t0, t1, t2, t3, t4⟩ := tk_cells HK4.out
    by_cases h0 : e0 = 0
    · subst h0
      have HV := Lib.hid (show TabT t = (tabT t, 0) by unfold TabT; simp [HE0.out])
      have hle := rowT_le (okT_of HE0.out)
      have HLE := Lib.hid hle
      clear hle
      rw [HV.out] at hrs2 ⊢
      obtain ⟨A1, c1, rfl, hr1⟩ := tab_full HT4.out (by rw [HR3.out, HV.out])
      obtain ⟨A2, c2, rfl, hr2⟩ := tab_full htab2 hrs2
      have HR1 := Lib.hid hr1
      have HR2 := Lib.hid hr2
      clear hr1 hr2 htab2 hrs2 HT4 HR3
      go_wp2_with fail
      refine (equal_t A1 A2 c1 c2 (tabT t) _ (by have := HLE.out.1; omega) (fun x hx => by have := HLE.out.2 x hx; omega) HR1.out HR2.out).mono ?_
      rintro e w5 ⟨rfl, hb5⟩
      have HB5 := Lib.hid (cur_step1 HB4.out hb5)
      have HK5 := Lib.hid (HK4.out.to hb5)
      have HR5 := Lib.hid (HR1.out.to hb5)
      clear hb5 t0 t1 t2 t3 t4 HK4
      obtain ⟨t0, t1, t2, t3, t4⟩ := tk_cells HK5.out
      go_wp2_with fail
      refine (Accept_p t (tabT t) A W A1 c wc c1 0 _ hsm (HD.out.to HB5.out) (HW.out.to HB5.out) HR5.out (by have := HLE.out.1; omega) (fun x hx => by have := HLE.out.2 x hx; omega) (accT_self HE0.out)).mono ?_
      rintro e w6 ⟨rfl, hb6⟩
      have HB6 := Lib.hid (cur_step1 HB5.out hb6)
      clear hb6
      go_wp2_with fail
      go_ret
      exact ⟨rfl, HB6.out⟩
    · have HV := Lib.hid (show TabT t = ([], e0) by unfold TabT; rw [HE0.out, if_pos h0])
      have e1 : (e0 != 0) = true := by simpa using h0
      rw [HV.out] at hrs2 ⊢
      have hr1 := HR3.out
      rw [HV.out] at hr1
      have hr1 := List.map_eq_nil_iff.1 hr1
      have hrs2 := List.map_eq_nil_iff.1 hrs2
      subst hr1 hrs2
      obtain ⟨A1, c1, rfl⟩ := HT4.out.form
      obtain ⟨A2, c2, rfl⟩ := htab2.form
      clear htab2 HT4 HR3 h0
      go_wp2_with fail
      refine (equal_t A1 A2 c1 c2 [] _ (by simp) (by simp) (by intro k x hx; simp at hx) (by intro k x hx; simp at hx)).mono ?_
      rintro e w5 ⟨rfl, hb5⟩
      have HB5 := Lib.hid (cur_step1 HB4.out hb5)
      clear hb5
      go_wp2_with fail
      go_ret
      exact ⟨rfl, HB5.out⟩
end Go.Proofs.YtkmkdknjpnkkpaaGreatDoor
