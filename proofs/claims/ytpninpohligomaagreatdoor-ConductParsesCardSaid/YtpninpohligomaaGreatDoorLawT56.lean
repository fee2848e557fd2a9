/-
  ConductTexts, ConductParses: the walks.
-/
import Derived.Test.YtpninpohligomaaGreatDoorParC56
import Derived.Test.YtpninpohligomaaGreatDoorRtP56
import Derived.Test.YtpninpohligomaaGreatDoorEqu56
import Derived.Test.YtpninpohligomaaGreatDoorEq56
set_option linter.unusedSimpArgs false
set_option linter.unusedVariables false
namespace Go.Proofs.YtpninpohligomaaGreatDoor
open Go.RowKit
set_option maxRecDepth 100000
set_option maxHeartbeats 2000000
theorem law_texts (A : Option Addr) (c : Nat) (l : List Of) (w : World) (hn : l.length ≤ 9223372036854775807) (hlc : l.length ≤ c) (hr : Rd ofE 4 w w.heap.size A l) (hsz : ∀ z ∈ l, z.p.size ≤ 9223372036854775807) (hw : LibW w) :
    Calls Tryz.prog 3 #[.slice A l.length c] w fun e w' => e = .returned (.bool true) ∧ Below w.heap.size w w' := by
  obtain ⟨l', hl'⟩ : ∃ l', l.take 16 = l' := ⟨_, rfl⟩
  have hln : min l.length 16 = l'.length := by rw [← hl', List.length_take]; omega
  have hl16 : l'.length ≤ 16 := by omega
  have HR := Lib.hid (show Rd ofE 4 w w.heap.size A l' by rw [← hl']; exact hr.pre 16)
  have HSZ := Lib.hid (show ∀ z ∈ l', z.p.size ≤ 9223372036854775807 from fun z hz => by rw [← hl'] at hz; exact hsz z (List.mem_of_mem_take hz))
  have HW := Lib.hid hw
  have hlc' : l'.length ≤ c := by omega
  obtain ⟨T, eT, hT⟩ : ∃ T e, TxtC l' = (T, e) := ⟨_, _, rfl⟩
  have HT := Lib.hid hT
  have HLN := Lib.hid hln
  clear hl' hr hsz hw hT hln
  go_enter Tryz.func3, Tryz.ntmps3
  go_wp2_with fail
  refine (awake_any _).mono ?_
  rintro e w1 ⟨rfl, hb1⟩
  have HB1 := Lib.hid hb1
  clear hb1
  go_wp2_with fail
  refine (few_f A c l.length _ hn hlc).mono ?_
  rintro e w2 ⟨rfl, hb2⟩
  rw [HLN.out]
  have HB2 := Lib.hid (cur_step1 HB1.out hb2)
  clear hb2
  go_wp2_with fail
  refine (text_p A c l' _ (by omega) (HR.out.to HB2.out) HSZ.out (HW.out.to HB2.out)).mono ?_
  rintro e w3 ⟨rfl, hb3⟩
  rw [HT.out]
  have HB3 := Lib.hid (cur_step1 HB2.out hb3)
  clear hb3
  (try simp only [])
  go_wp2_with fail
  refine (text_r A c l' _ (by omega) (HR.out.to HB3.out) hlc' HSZ.out).mono ?_
  rintro e w4 ⟨rfl, hb4⟩
  rw [HT.out]
  have HB4 := Lib.hid (cur_step1 HB3.out hb4)
  clear hb4
  (try simp only [])
  have g0 : ((⟨T.toArray⟩ : ByteArray).toList == (⟨T.toArray⟩ : ByteArray).toList) = true := by simp
  have g1 : (eT != eT) = false := by simp
  by_cases h0 : eT = 0
  · subst h0
    have hck : ckO l' = 0 ∧ T = txtC l' := by
      have h := HT.out
      unfold TxtC at h
      by_cases h9 : ckO l' = 0
      · rw [if_neg (by simpa using h9)] at h
        injection h with h1 h2
        exact ⟨h9, h1.symm⟩
      · rw [if_pos h9] at h
        injection h with h1 h2
        exact absurd h2 h9
    obtain ⟨hck, rfl⟩ := hck
    have HP := Lib.hid (par_back hck)
    have hts : (⟨(txtC l').toArray⟩ : ByteArray).size ≤ 1000 := by
      rw [mk_size]
      have := txtC_len59 (l := l') (okO_of hck).2
      omega
    clear hck
    go_wp2_with fail
    refine (parse_p (⟨(txtC l').toArray⟩ : ByteArray) _ hts (HW.out.to HB4.out)).mono ?_
    rintro e w5 ⟨v, rfl, hown, hb5⟩
    rw [show (⟨(txtC l').toArray⟩ : ByteArray).data.toList = txtC l' from rfl, HP.out] at hown ⊢
    obtain ⟨A2, c2, rfl, hrd, _⟩ := OwnL.rd ofE_len hown
    have HB5 := Lib.hid (cur_step1 HB4.out hb5)
    have HRD := Lib.hid hrd
    clear hown hb5 hrd hts
    (try simp only [])
    go_wp2_with (go_at_call 12; refine (equal_of A A2 c c2 l' _ (by omega) (HR.out.to (by exact HB5.out)) (by exact HRD.out)).mono ?_; rintro e w6 ⟨rfl, hb6⟩)
    go_ret
    exact ⟨rfl, cur_step1 HB5.out hb6⟩
  · have g2 : (eT != 0) = true := by simpa using h0
    have hnil : T = [] := by
      have h := HT.out
      unfold TxtC at h
      by_cases h9 : ckO l' = 0
      · rw [if_neg (by simpa using h9)] at h
        injection h with h1 h2
        exact absurd h2.symm h0
      · rw [if_pos h9] at h
        injection h with h1 h2
        exact h1.symm
    subst hnil
    clear h0
    go_wp2_with fail
    go_ret
    exact ⟨rfl, HB4.out⟩
theorem law_parses (p : ByteArray) (w : World) (hps : p.size ≤ 9223372036854775807) (hw : LibW w) :
    Calls Tryz.prog 4 #[.string p] w fun e w' => e = .returned (.bool true) ∧ Below w.heap.size w w' := by
  obtain ⟨m, hm⟩ : ∃ m : Nat, min p.size 400 = m := ⟨_, rfl⟩
  have hm1 : m ≤ p.size := by omega
  have hm2 : m ≤ 400 := by omega
  have hmin : min (p.size : Int) 400 = (m : Nat) := by omega
  obtain ⟨S, hS⟩ : ∃ S, p.extract 0 m = S := ⟨_, rfl⟩
  have hz : S.size ≤ 1000 := by rw [← hS, ByteArray.size_extract]; omega
  obtain ⟨l, eP, hP⟩ : ∃ l e, ParC (rowsR (splitC 10 S.data.toList)) S.data.toList = (l, e) := ⟨_, _, rfl⟩
  have hP2 : ParC (splitC 10 S.data.toList).dropLast S.data.toList = (l, eP) := by rw [← par_same, hP]
  have hl : l.length ≤ 2000 ∧ (∀ z ∈ l, z.p.size ≤ 16) ∧ (eP = 0 → TxtC l = (S.data.toList, 0)) := by
    rcases par_cases (rowsR (splitC 10 S.data.toList)) S.data.toList with h | ⟨l2, h, h2, h3⟩
    · rw [hP] at h
      injection h with h h4
      subst h
      exact ⟨by simp, by simp, fun e => by omega⟩
    · rw [hP] at h
      injection h with h h4
      subst h
      obtain ⟨h5, h6⟩ := ckO_small h2
      refine ⟨h5, h6, fun _ => ?_⟩
      unfold TxtC
      rw [if_neg (by simpa using h2), h3]
  have HP := Lib.hid hP
  have HP2 := Lib.hid hP2
  have HL := Lib.hid hl
  have HW := Lib.hid hw
  have HS := Lib.hid hS
  clear hP hP2 hl hw hS hm
  go_enter Tryz.func4, Tryz.ntmps4
  go_wp2_with fail
  refine (awake_any _).mono ?_
  rintro e w1 ⟨rfl, hb1⟩
  have HB1 := Lib.hid hb1
  clear hb1
  go_wp2_with fail
  rw [HS.out]
  refine (parse_p S _ hz (HW.out.to HB1.out)).mono ?_
  rintro e w2 ⟨v, rfl, hown, hb2⟩
  rw [HP.out] at hown ⊢
  obtain ⟨A, c, rfl, hrd, _⟩ := OwnL.rd ofE_len hown
  have HB2 := Lib.hid (cur_step1 HB1.out hb2)
  have HRD := Lib.hid hrd
  clear hown hb2 hrd
  (try simp only [])
  go_wp2_with fail
  refine (parse_r S _ hz).mono ?_
  rintro e w3 ⟨v, rfl, hown, hb3⟩
  rw [HP2.out] at hown ⊢
  obtain ⟨A2, c2, rfl, hrd2, _⟩ := OwnL.rd ofE_len hown
  have HB3 := Lib.hid (cur_step1 HB2.out hb3)
  have HRD3 := Lib.hid (HRD.out.to hb3)
  have HRD2 := Lib.hid hrd2
  clear hown hb3 hrd2
  (try simp only [])
  have g1 : (eP != eP) = false := by simp
  obtain ⟨T, eT, hT⟩ : ∃ T e, TxtC l = (T, e) := ⟨_, _, rfl⟩
  have HT := Lib.hid hT
  clear hT
  go_wp2_with (go_at_call 12; refine (equal_of A A2 c c2 l _ (by have := HL.out.1; omega) (by exact HRD3.out) (by exact HRD2.out)).mono ?_; rintro e w4 ⟨rfl, hb4⟩; have HB4 := Lib.hid (cur_step1 HB3.out hb4); have HRD4 := Lib.hid (HRD3.out.to hb4); clear hb4)
  refine (text_p A c l _ HL.out.1 HRD4.out (fun z hz => by have := HL.out.2.1 z hz; omega) (HW.out.to HB4.out)).mono ?_
  rintro e w5 ⟨rfl, hb5⟩
  rw [HT.out]
  have HB5 := Lib.hid (cur_step1 HB4.out hb5)
  clear hb5
  (try simp only [])
  by_cases h0 : eP = 0
  · have h1 := HL.out.2.2 h0
    rw [HT.out] at h1
    injection h1 with h1 h2
    subst h1 h2 h0
    have g2 : ((⟨S.data.toList.toArray⟩ : ByteArray).toList == S.toList) = true := by rw [ByteArray.toList_eq]; simp
    go_wp2_with fail
    go_ret
    exact ⟨rfl, HB5.out⟩
  · have g2 : (eP != 0) = true := by simpa using h0
    clear h0
    go_wp2_with fail
    go_ret
    exact ⟨rfl, HB5.out⟩
end Go.Proofs.YtpninpohligomaaGreatDoor
