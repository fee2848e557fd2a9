/-
  Chapter 47: Accept of the program.
-/
import Derived.Test.YtkmkdknjpnkkpaaGreatDoorTab47
import Derived.Test.YtkmkdknjpnkkpaaGreatDoorEqf47
set_option linter.unusedSimpArgs false
set_option linter.unusedVariables false
namespace Go.Proofs.YtkmkdknjpnkkpaaGreatDoor
open Go.RowKit
set_option maxRecDepth 100000
set_option maxHeartbeats 1000000
def accT (t : Tk) (l : List (List Int)) : Int := if ckT t ≠ 0 then ckT t else if l.map List.length ≠ (tabT t).map List.length then 4 else if l ≠ tabT t then 12 else 0
theorem tab_full {w : World} {base : Nat} {t : Tk} {v : Value} {rs : List Rw} (h : Tab w base v rs) (hr : rs.map Rw.l = tabT t) : ∃ A c, v = .slice A (tabT t).length c ∧ Rd2 w w.heap.size A (tabT t) := by
  obtain ⟨A, c, rfl⟩ := h.form
  refine ⟨A, c, by rw [← hr, List.length_map], ?_⟩
  rw [← hr]
  exact h.rd2.2
theorem Accept_p (t : Tk) (l : List (List Int)) (A W L : Option Addr) (c wc lc : Nat) (v : Int) (w : World) (hs : Sm t) (hd : Rd ocE 3 w w.heap.size A t.d) (hw : Rd2 w w.heap.size W t.win) (hL : Rd2 w w.heap.size L l) (hm : l.length ≤ 1000000) (hrm : ∀ x ∈ l, x.length ≤ 1000000) (hv : accT t l = v) :
    Calls Tryz.prog 22 #[tkV t A W c wc, .slice L l.length lc] w fun e w' => e = .returned (.int .i64 v) ∧ Below w.heap.size w w' := by
  obtain ⟨e0, he0⟩ : ∃ e0, ckT t = e0 := ⟨_, rfl⟩
  unfold accT at hv
  rw [he0] at hv
  have HD := Lib.hid hd
  have HW := Lib.hid hw
  have HL := Lib.hid hL
  have HRM := Lib.hid hrm
  have hbk := Blk.new w 25 (tkL t A W c wc)
  have hb0 := cur_new w (.cells (tkL t A W c wc).toArray 25)
  unfold tkL at hbk hb0
  clear hd hw hL hrm
  by_cases h0 : e0 ≠ 0
  · rw [if_pos h0] at hv
    subst hv
    have e1 : (e0 != 0) = true := by simpa using h0
    have HV := Lib.hid (show TabT t = ([], e0) by unfold TabT; rw [he0, if_pos h0])
    clear h0
    go_enter Tryz.func22, Tryz.ntmps22
    go_wp2_with fail
    refine (Table_p t A W c wc _ hs (HD.out.to hb0) (HW.out.to hb0)).mono ?_
    rintro e w1 ⟨tv, rfl, rs, htab, hrs, hb1⟩
    rw [HV.out]
    have HB := Lib.hid (cur_step1 hb0 hb1)
    clear hb1 htab hrs
    go_wp2_with fail
    go_ret
    exact ⟨rfl, HB.out⟩
  · have h0' : e0 = 0 := by simpa using h0
    subst h0'
    rw [if_neg h0] at hv
    have HV := Lib.hid (show TabT t = (tabT t, 0) by unfold TabT; rw [he0, if_neg h0])
    clear h0
    by_cases h1 : l.map List.length ≠ (tabT t).map List.length
    · rw [if_pos h1] at hv
      subst hv
      have HE := Lib.hid (show decide (l.map List.length = (tabT t).map List.length) = false from decide_eq_false h1)
      clear h1
      go_enter Tryz.func22, Tryz.ntmps22
      go_wp2_with fail
      refine (Table_p t A W c wc _ hs (HD.out.to hb0) (HW.out.to hb0)).mono ?_
      rintro e w1 ⟨tv, rfl, rs, htab, hrs, hb1⟩
      rw [HV.out] at hrs ⊢
      obtain ⟨A2, c2, rfl, hr2⟩ := tab_full htab hrs
      have HB := Lib.hid (cur_step1 hb0 hb1)
      have HR2 := Lib.hid hr2
      clear hb1 htab hrs hr2
      go_wp2_with fail
      refine (eqf1_f L A2 lc c2 l (tabT t) _ _ (eqfT_len _ _) hm HRM.out (HL.out.to HB.out) HR2.out).mono ?_
      rw [HE.out]
      rintro e w2 ⟨rfl, hb2⟩
      have HB2 := Lib.hid (cur_step1 HB.out hb2)
      clear hb2
      go_wp2_with fail
      go_ret
      exact ⟨rfl, HB2.out⟩
    · rw [if_neg h1] at hv
      have HE := Lib.hid (show decide (l.map List.length = (tabT t).map List.length) = true from decide_eq_true (by simpa using h1))
      clear h1
      obtain ⟨q, hq⟩ : ∃ q, decide (l = tabT t) = q := ⟨_, rfl⟩
      have hvq : v = if q = true then 0 else 12 := by
        rw [← hv, ← hq]
        by_cases h : l = tabT t
        · simp [h]
        · simp [h]
      have HQ := Lib.hid hq
      clear hq hv
      cases q
      all_goals
        simp at hvq
        subst hvq
        go_enter Tryz.func22, Tryz.ntmps22
        go_wp2_with fail
        refine (Table_p t A W c wc _ hs (HD.out.to hb0) (HW.out.to hb0)).mono ?_
        rintro e w1 ⟨tv, rfl, rs, htab, hrs, hb1⟩
        rw [HV.out] at hrs ⊢
        obtain ⟨A2, c2, rfl, hr2⟩ := tab_full htab hrs
        have HB := Lib.hid (cur_step1 hb0 hb1)
        have HR2 := Lib.hid hr2
        clear hb1 htab hrs hr2
        go_wp2_with fail
        refine (eqf1_f L A2 lc c2 l (tabT t) _ _ (eqfT_len _ _) hm HRM.out (HL.out.to HB.out) HR2.out).mono ?_
        rw [HE.out]
        rintro e w2 ⟨rfl, hb2⟩
        have HB2 := Lib.hid (cur_step1 HB.out hb2)
        have HR3 := Lib.hid (HR2.out.to hb2)
        clear hb2
        go_wp2_with fail
        refine (eqf2_f L A2 lc c2 l (tabT t) _ _ (eqfT_eq _ _) hm HRM.out (HL.out.to HB2.out) HR3.out).mono ?_
        rw [HQ.out]
        rintro e w3 ⟨rfl, hb3⟩
        have HB3 := Lib.hid (cur_step1 HB2.out hb3)
        clear hb3
        go_wp2_with fail
        go_ret
        exact ⟨rfl, HB3.out⟩
end Go.Proofs.YtkmkdknjpnkkpaaGreatDoor
