/-
  Chapter 47: the law DeclareRules: the walk.
-/
import Derived.Test.YtkmkdknjpnkkpaaGreatDoorLawDv
import Derived.Test.YtkmkdknjpnkkpaaGreatDoorRl47
set_option linter.unusedSimpArgs false
set_option linter.unusedVariables false
namespace Go.Proofs.YtkmkdknjpnkkpaaGreatDoor
open Go.RowKit
set_option maxRecDepth 100000
set_option maxHeartbeats 1000000
theorem rul_le {t : Tk} {ls : List Int} {r e v f : Int} (hr : RulT t ls = (r, e)) (hv : ValT t t.ld t.ov = (v, f)) : e ≠ 0 ∨ (f = 0 ∧ 0 ≤ r ∧ r ≤ v) := by
  unfold RulT at hr
  split at hr
  · injection hr with h1 h2
    rename_i h0
    exact .inl (by rw [← h2]; exact h0)
  split at hr
  · injection hr with h1 h2
    exact .inl (by rw [← h2]; decide)
  rename_i h0 h1
  injection hr with h2 h3
  have h0' : ckT t = 0 := by simpa using h0
  have hok := okT_of h0'
  have hov := hok.ov
  have hld := hok.ld
  have hc : ck3 t t.ld t.ov = 0 := by
    unfold ck3
    rw [if_neg h0, if_neg (by omega)]
  unfold ValT at hv
  rw [hc] at hv
  injection hv with h4 h5
  have h6 := hok.rule ls (m := t.ov.toNat) (by omega) t.ld
  rw [← h2, ← h4]
  exact .inr ⟨h5.symm, h6⟩
theorem law_ru (t : Tk) (ls : List Int) (A W L : Option Addr) (c wc lc : Nat) (mx : Int) (w : World) (hd : Rd ocE 3 w w.heap.size A t.d) (hw : Rd2 w w.heap.size W t.win) (hL : Rd inE 1 w w.heap.size L ls) (hm : w.cell? ⟨0, 0, none⟩ = some (.int .i64 mx)) :
    Calls Tryz.prog 4 #[tkV t A W c wc, .slice L ls.length lc] w fun e w' => e = .returned (.bool true) ∧ Below w.heap.size w w' := by
  have hbk := Blk.new w 25 (tkL t A W c wc)
  have hb0 := cur_new w (.cells (tkL t A W c wc).toArray 25)
  have HM := Lib.hid ((hb0.cell (p := ⟨0, 0, none⟩) (Lib.lt_of_cell hm)).trans hm)
  unfold tkL at hbk hb0 HM
  have HD := Lib.hid hd
  have HW := Lib.hid hw
  have HL := Lib.hid hL
  clear hd hw hm hL
  cases hs : smB t
  · have HS := Lib.hid hs
    clear hs
    go_enter Tryz.func4, Tryz.ntmps4
    go_wp2_with fail
    refine (awake_d mx _ HM.out).mono ?_
    rintro e w1 ⟨rfl, hb1⟩
    have HB1 := Lib.hid (cur_step1 hb0 hb1)
    obtain ⟨t0, t1, t2, t3, t4⟩ := tk_cells (hbk.to hb1)
    clear hb1
    go_wp2_with fail
    refine (small_f t A W c wc false _ (HW.out.to HB1.out) HS.out).mono ?_
    rintro e w2 ⟨rfl, hb2⟩
    have HB2 := Lib.hid (cur_step1 HB1.out hb2)
    clear hb2
    go_wp2_with fail
    go_ret
    exact ⟨rfl, HB2.out⟩
  · have HS := Lib.hid hs
    have hsm := sm_of hs
    clear hs
    by_cases hlen : 100 < ls.length
    · go_enter Tryz.func4, Tryz.ntmps4
      go_wp2_with fail
      refine (awake_d mx _ HM.out).mono ?_
      rintro e w1 ⟨rfl, hb1⟩
      have HB1 := Lib.hid (cur_step1 hb0 hb1)
      obtain ⟨t0, t1, t2, t3, t4⟩ := tk_cells (hbk.to hb1)
      clear hb1
      go_wp2_with fail
      refine (small_f t A W c wc true _ (HW.out.to HB1.out) HS.out).mono ?_
      rintro e w2 ⟨rfl, hb2⟩
      have HB2 := Lib.hid (cur_step1 HB1.out hb2)
      clear hb2
      go_wp2_with fail
      go_ret
      exact ⟨rfl, HB2.out⟩
    obtain ⟨rv, hrv⟩ : ∃ rv, RulT t ls = rv := ⟨_, rfl⟩
    obtain ⟨vv, hvv⟩ : ∃ vv, ValT t t.ld t.ov = vv := ⟨_, rfl⟩
    obtain ⟨r0, r1⟩ := rv
    obtain ⟨v0, v1⟩ := vv
    have hor := rul_le hrv hvv
    have HRV := Lib.hid hrv
    have HVV := Lib.hid hvv
    clear hrv hvv
    have hlen2 : ls.length ≤ 100 := by omega
    clear hlen
    go_enter Tryz.func4, Tryz.ntmps4
    go_wp2_with fail
    refine (awake_d mx _ HM.out).mono ?_
    rintro e w1 ⟨rfl, hb1⟩
    have HB1 := Lib.hid (cur_step1 hb0 hb1)
    have HK1 := Lib.hid (hbk.to hb1)
    obtain ⟨t0, t1, t2, t3, t4⟩ := tk_cells HK1.out
    clear hb1
    go_wp2_with fail
    refine (small_f t A W c wc true _ (HW.out.to HB1.out) HS.out).mono ?_
    rintro e w2 ⟨rfl, hb2⟩
    have HB2 := Lib.hid (cur_step1 HB1.out hb2)
    have HK2 := Lib.hid (HK1.out.to hb2)
    clear hb2 t0 t1 t2 t3 t4 HK1
    obtain ⟨t0, t1, t2, t3, t4⟩ := tk_cells HK2.out
    go_wp2_with fail
    refine (Rule_p t ls A W L c wc lc _ hsm (HD.out.to HB2.out) (HW.out.to HB2.out) (HL.out.to HB2.out)).mono ?_
    rw [HRV.out]
    rintro e w3 ⟨rfl, hb3⟩
    have HB3 := Lib.hid (cur_step1 HB2.out hb3)
    have HK3 := Lib.hid (HK2.out.to hb3)
    clear hb3 t0 t1 t2 t3 t4 HK2
    obtain ⟨t0, t1, t2, t3, t4⟩ := tk_cells HK3.out
    go_wp2_with fail
    refine (Rule_r t ls A W L c wc lc _ hsm (HD.out.to HB3.out) (HW.out.to HB3.out) (HL.out.to HB3.out)).mono ?_
    rw [HRV.out]
    rintro e w4 ⟨rfl, hb4⟩
    have HB4 := Lib.hid (cur_step1 HB3.out hb4)
    have HK4 := Lib.hid (HK3.out.to hb4)
    clear hb4 t0 t1 t2 t3 t4 HK3
    obtain ⟨t0, t1, t2, t3, t4⟩ := tk_cells HK4.out
    go_wp2_with fail
    refine (Value_p t A W c wc t.ld t.ov _ hsm (HD.out.to HB4.out) (HW.out.to HB4.out)).mono ?_
    rw [HVV.out]
    rintro e w5 ⟨rfl, hb5⟩
    have HB5 := Lib.hid (cur_step1 HB4.out hb5)
    clear hb5 t0 t1 t2 t3 t4 HK4
    by_cases h1 : r1 = 0
    · subst h1
      obtain ⟨rfl, hr0, hr1⟩ := hor.resolve_left (by simp)
      clear hor
      go_wp2_with fail
      go_ret
      exact ⟨rfl, HB5.out⟩
    · have h2 : (r1 != 0) = true := by simpa using h1
      clear hor
      go_wp2_with fail
      go_ret
      exact ⟨rfl, HB5.out⟩
end Go.Proofs.YtkmkdknjpnkkpaaGreatDoor
