/-
  Chapter 47: the law DeclareValues: the walk.
-/
import Derived.Test.YtkmkdknjpnkkpaaGreatDoorAwk47
import Derived.Test.YtkmkdknjpnkkpaaGreatDoorSml47
import Derived.Test.YtkmkdknjpnkkpaaGreatDoorVlR47
import Derived.BigQuiet
set_option linter.unusedSimpArgs false
set_option linter.unusedVariables false
namespace Go.Proofs.YtkmkdknjpnkkpaaGreatDoor
open Go.RowKit
set_option maxRecDepth 100000
set_option maxHeartbeats 1000000
theorem law_dv (t : Tk) (A W : Option Addr) (c wc : Nat) (lead m mx : Int) (w : World) (hd : Rd ocE 3 w w.heap.size A t.d) (hw : Rd2 w w.heap.size W t.win) (hm : w.cell? ⟨0, 0, none⟩ = some (.int .i64 mx)) :
    Calls Tryz.prog 3 #[tkV t A W c wc, .int .i64 lead, .int .i64 m] w fun e w' => e = .returned (.bool true) ∧ Below w.heap.size w w' := by
  have hbk := Blk.new w 25 (tkL t A W c wc)
  have hb0 := cur_new w (.cells (tkL t A W c wc).toArray 25)
  have HM := Lib.hid ((hb0.cell (p := ⟨0, 0, none⟩) (Lib.lt_of_cell hm)).trans hm)
  unfold tkL at hbk hb0 HM
  have HD := Lib.hid hd
  have HW := Lib.hid hw
  clear hd hw hm
  cases hs : smB t
  · have HS := Lib.hid hs
    clear hs
    go_enter Tryz.func3, Tryz.ntmps3
    go_wp2_with fail
    refine (awake_d mx _ HM.out).mono ?_
    rintro e w1 ⟨rfl, hb1⟩
    have HB1 := Lib.hid (cur_step1 hb0 hb1)
    obtain ⟨t0, t1, t2, t3, t4⟩ := tk_cells (hbk.to hb1)
    clear hb1
    go_wp2_with fail
    refine (small_f t A W c wc false _ (HW.out.to HB1.out) HS.out).mono ?_
    rintro e w2 ⟨rfl, hb2⟩
    have HB2 := Lib.hid (cur_step1 HB1.out hb2)
    clear hb2
    go_wp2_with fail
    go_ret
    exact ⟨rfl, HB2.out⟩
  · have HS := Lib.hid hs
    have hsm := sm_of hs
    clear hs
    obtain ⟨nv, hnv⟩ : ∃ nv, NowT t lead m = nv := ⟨_, rfl⟩
    obtain ⟨vv, hvv⟩ : ∃ vv, ValT t lead m = vv := ⟨_, rfl⟩
    obtain ⟨sv, hsv⟩ : ∃ sv, StopT t lead m = sv := ⟨_, rfl⟩
    obtain ⟨n0, n1⟩ := nv
    obtain ⟨v0, v1⟩ := vv
    obtain ⟨s0, s1⟩ := sv
    obtain ⟨ce, hce⟩ : ∃ ce, ckT t = ce := ⟨_, rfl⟩
    have HNV := Lib.hid hnv
    have HVV := Lib.hid hvv
    have HSV := Lib.hid hsv
    have HCE := Lib.hid hce
    clear hnv hvv hsv hce
    go_enter Tryz.func3, Tryz.ntmps3
    go_wp2_with fail
    refine (awake_d mx _ HM.out).mono ?_
    rintro e w1 ⟨rfl, hb1⟩
    have HB1 := Lib.hid (cur_step1 hb0 hb1)
    have HK1 := Lib.hid (hbk.to hb1)
    obtain ⟨t0, t1, t2, t3, t4⟩ := tk_cells HK1.out
    clear hb1
    go_wp2_with fail
    refine (small_f t A W c wc true _ (HW.out.to HB1.out) HS.out).mono ?_
    rintro e w2 ⟨rfl, hb2⟩
    have HB2 := Lib.hid (cur_step1 HB1.out hb2)
    have HK2 := Lib.hid (HK1.out.to hb2)
    clear hb2 t0 t1 t2 t3 t4 HK1
    obtain ⟨t0, t1, t2, t3, t4⟩ := tk_cells HK2.out
    go_wp2_with fail
    refine (Now_p t A W c wc lead m _ hsm (HD.out.to HB2.out) (HW.out.to HB2.out)).mono ?_
    rw [HNV.out]
    rintro e w3 ⟨rfl, hb3⟩
    have HB3 := Lib.hid (cur_step1 HB2.out hb3)
    have HK3 := Lib.hid (HK2.out.to hb3)
    clear hb3 t0 t1 t2 t3 t4 HK2
    obtain ⟨t0, t1, t2, t3, t4⟩ := tk_cells HK3.out
    go_wp2_with fail
    refine (Now_r t A W c wc lead m _ hsm (HD.out.to HB3.out) (HW.out.to HB3.out)).mono ?_
    rw [HNV.out]
    rintro e w4 ⟨rfl, hb4⟩
    have HB4 := Lib.hid (cur_step1 HB3.out hb4)
    have HK4 := Lib.hid (HK3.out.to hb4)
    clear hb4 t0 t1 t2 t3 t4 HK3
    obtain ⟨t0, t1, t2, t3, t4⟩ := tk_cells HK4.out
    go_wp2_with fail
    refine (Value_p t A W c wc lead m _ hsm (HD.out.to HB4.out) (HW.out.to HB4.out)).mono ?_
    rw [HVV.out]
    rintro e w5 ⟨rfl, hb5⟩
    have HB5 := Lib.hid (cur_step1 HB4.out hb5)
    have HK5 := Lib.hid (HK4.out.to hb5)
    clear hb5 t0 t1 t2 t3 t4 HK4
    obtain ⟨t0, t1, t2, t3, t4⟩ := tk_cells HK5.out
    go_wp2_with fail
    refine (Value_r t A W c wc lead m _ hsm (HD.out.to HB5.out) (HW.out.to HB5.out)).mono ?_
    rw [HVV.out]
    rintro e w6 ⟨rfl, hb6⟩
    have HB6 := Lib.hid (cur_step1 HB5.out hb6)
    have HK6 := Lib.hid (HK5.out.to hb6)
    clear hb6 t0 t1 t2 t3 t4 HK5
    obtain ⟨t0, t1, t2, t3, t4⟩ := tk_cells HK6.out
    go_wp2_with fail
    refine (Stop_p t A W c wc lead m _ hsm (HD.out.to HB6.out) (HW.out.to HB6.out)).mono ?_
    rw [HSV.out]
    rintro e w7 ⟨rfl, hb7⟩
    have HB7 := Lib.hid (cur_step1 HB6.out hb7)
    have HK7 := Lib.hid (HK6.out.to hb7)
    clear hb7 t0 t1 t2 t3 t4 HK6
    obtain ⟨t0, t1, t2, t3, t4⟩ := tk_cells HK7.out
    go_wp2_with fail
    refine (Stop_r t A W c wc lead m _ hsm (HD.out.to HB7.out) (HW.out.to HB7.out)).mono ?_
    rw [HSV.out]
    rintro e w8 ⟨rfl, hb8⟩
    have HB8 := Lib.hid (cur_step1 HB7.out hb8)
    have HK8 := Lib.hid (HK7.out.to hb8)
    clear hb8 t0 t1 t2 t3 t4 HK7
    obtain ⟨t0, t1, t2, t3, t4⟩ := tk_cells HK8.out
    go_wp2_with fail
    obtain ⟨CS, hCS⟩ : ∃ CS : List (Nat × Nat × Value), CS = [(w.heap.size, 0, .int .i64 t.ov), (w.heap.size, 1, .int .i64 t.ld), (w.heap.size, 2, .int .i64 t.sp), (w.heap.size, 3, .slice A t.d.length c), (w.heap.size, 4, .slice W t.win.length wc)] := ⟨_, rfl⟩
    have hl8 := HK8.out.lt
    have K3 : Keep w w8 CS := by rw [hCS]; exact Keep.start HB8.out (by simp [t0, t1, t2, t3, t4, hl8])
    have k0 : ∀ s : Wd w CS, s.w.cell? ⟨w.heap.size, 0, none⟩ = some (.int .i64 t.ov) := fun s => s.h.get (by simp [hCS])
    have k1 : ∀ s : Wd w CS, s.w.cell? ⟨w.heap.size, 1, none⟩ = some (.int .i64 t.ld) := fun s => s.h.get (by simp [hCS])
    have k2 : ∀ s : Wd w CS, s.w.cell? ⟨w.heap.size, 2, none⟩ = some (.int .i64 t.sp) := fun s => s.h.get (by simp [hCS])
    have k3 : ∀ s : Wd w CS, s.w.cell? ⟨w.heap.size, 3, none⟩ = some (.slice A t.d.length c) := fun s => s.h.get (by simp [hCS])
    have k4 : ∀ s : Wd w CS, s.w.cell? ⟨w.heap.size, 4, none⟩ = some (.slice W t.win.length wc) := fun s => s.h.get (by simp [hCS])
    have hex : ∀ s : Wd w CS, ∃ s' : Wd w CS, s.w = s'.w := fun s => ⟨s, rfl⟩
    haveI hne : Nonempty (Wd w CS) := ⟨⟨_, K3⟩⟩
    have HCS := Lib.hid hCS
    clear hCS t0 t1 t2 t3 t4 hbk hb0 HM
    refine wp_region_wd w CS (by kernel_rfl) (by kernel_rfl) K3.drew ?_
    repeat (go_big_quiet_step ((first
      | (go_at_call 15; refine (ckt_p t A W c wc ce _ hsm (HD.out.to (Wd.h _).1) (HW.out.to (Wd.h _).1) HCE.out).mono ?_; rintro e w9 ⟨rfl, hb9⟩; exact ⟨rfl, ⟨w9, (Wd.h _).to hb9⟩, rfl⟩)
      | (go_at_call 16; refine (ckt_r t A W c wc ce _ hsm (HD.out.to (Wd.h _).1) (HW.out.to (Wd.h _).1) HCE.out).mono ?_; rintro e w9 ⟨rfl, hb9⟩; exact ⟨rfl, ⟨w9, (Wd.h _).to hb9⟩, rfl⟩))))
    refine wpQuiet_nil ?_
    rintro w9 ⟨s9, hs9⟩
    have HB9 : Below w.heap.size w w9 := by rw [hs9]; exact s9.h.1
    clear hs9 s9 k0 k1 k2 k3 k4 hex hne K3 HCS
    (try simp only [])
    go_wp2
    go_ret
    exact ⟨ret_bool (by simp), HB9⟩
end Go.Proofs.YtkmkdknjpnkkpaaGreatDoor
