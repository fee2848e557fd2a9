/-
  ArchiveTexts: the walk.
-/
import Derived.Test.YtdbiihfoafoljaaGreatDoorAwkM
import Derived.Test.YtdbiihfoafoljaaGreatDoorEnQ
import Derived.Test.YtdbiihfoafoljaaGreatDoorEqs
import Derived.Test.YtdbiihfoafoljaaGreatDoorParA58
set_option linter.unusedSimpArgs false
set_option linter.unusedVariables false
namespace Go.Proofs.YtdbiihfoafoljaaGreatDoor
open Go.RowKit
set_option maxRecDepth 100000
set_option maxHeartbeats 4000000
theorem cut20_ev (x : Ent) : (cut20 x).ev = x.ev := rfl
theorem law_textsA (A : Option Addr) (c : Nat) (l : List Ent) (w : World) (hlc : l.length ≤ c) (hcm : c ≤ 9223372036854775807) (hr : Rd entE 21 w w.heap.size A l) (hsz : ∀ z ∈ l, z.sc.size ≤ 9223372036854775807 ∧ 0 ≤ z.ev.ball.how ∧ 0 ≤ z.ev.ball.src) (hw : LibW w) :
    Calls Tryz.prog 3 #[.slice A l.length c] w fun e w' => e = .returned (.bool true) ∧ Below w.heap.size w w' := by
  obtain ⟨F, hF⟩ : ∃ F, fewA l = F := ⟨_, rfl⟩
  have hFl : F.length ≤ 12 := by rw [← hF]; unfold fewA; rw [List.length_map, List.length_take]; omega
  have HFZ := Lib.hid (show ∀ z ∈ F, z.sc.size ≤ 9223372036854775807 ∧ 0 ≤ z.ev.ball.src ∧ 0 ≤ z.ev.ball.how from fun z hz => by
    rw [← hF] at hz
    unfold fewA at hz
    obtain ⟨y, hy, rfl⟩ := List.mem_map.1 hz
    have h1 := hsz y (List.mem_of_mem_take hy)
    refine ⟨?_, h1.2.2, h1.2.1⟩
    have h2 : (cut20 y).sc.size ≤ y.sc.size := by simp [cut20]; omega
    omega)
  have HFW := Lib.hid (show ∀ w', Below w.heap.size w w' → Calls Tryz.prog 6 #[.slice A l.length c] w' fun e w'' => (∃ v, e = .returned v ∧ OwnL entE 21 40 w'.heap.size w'' v F) ∧ Below w'.heap.size w' w'' from fun w' hb => by
    have h := few_p l A c w' hlc hcm (fun x hx => (hsz x hx).1) (hr.to hb)
    rw [hF] at h
    exact h)
  have HW := Lib.hid hw
  obtain ⟨n, hn⟩ : ∃ n, l.length = n := ⟨_, rfl⟩
  rw [hn] at HFW
  rw [hn]
  obtain ⟨T, eT, hT⟩ : ∃ T e, TxtA F = (T, e) := ⟨_, _, rfl⟩
  have HT := Lib.hid hT
  clear hF hr hsz hw hT hn hlc hcm
  go_enter Tryz.func3, Tryz.ntmps3
  go_wp2_with fail
  refine (awake_p _).mono ?_
  rintro e w1 ⟨rfl, hb1⟩
  have HB1 := Lib.hid hb1
  clear hb1
  go_wp2_with fail
  refine (HFW.out _ HB1.out).mono ?_
  rintro e w2 ⟨⟨v, rfl, hown⟩, hb2⟩
  obtain ⟨A2, c2, rfl, hrd, _⟩ := OwnL.rd entE_len hown
  have HR2 := Lib.hid hrd
  have HB2 := Lib.hid (cur_step1 HB1.out hb2)
  clear hb2 hrd hown
  go_wp2_with fail
  refine (text_ap A2 c2 F _ (by omega) HR2.out (fun z hz => (HFZ.out z hz).1) (fun z hz => (HFZ.out z hz).2.2) (HW.out.to HB2.out)).mono ?_
  rintro e w3 ⟨rfl, hb3⟩
  rw [HT.out]
  have HB3 := Lib.hid (cur_step1 HB2.out hb3)
  have HR3 := Lib.hid (HR2.out.to hb3)
  clear hb3
  (try simp only [])
  go_wp2_with fail
  refine (text_ar A2 c2 F _ (by omega) HR3.out (fun z hz => (HFZ.out z hz).1) (fun z hz => (HFZ.out z hz).2.2)).mono ?_
  rintro e w4 ⟨rfl, hb4⟩
  rw [HT.out]
  have HB4 := Lib.hid (cur_step1 HB3.out hb4)
  have HR4 := Lib.hid (HR3.out.to hb4)
  clear hb4
  (try simp only [])
  have g0 : ((⟨T.toArray⟩ : ByteArray).toList == (⟨T.toArray⟩ : ByteArray).toList) = true := by simp
  have g1 : (eT != eT) = false := by simp
  by_cases h0 : eT = 0
  · subst h0
    have h2 : (TxtA F).2 = 0 := by rw [HT.out]
    obtain ⟨hck, hTx⟩ := TxtA_ok h2
    have hTT : T = txtA F := by have h3 := HT.out; rw [hTx] at h3; exact (congrArg Prod.fst h3).symm
    subst hTT
    have HP := Lib.hid (parA_back h2 (fun z hz => (HFZ.out z hz).2))
    have hts : (⟨(txtA F).toArray⟩ : ByteArray).size ≤ 10000 := by
      rw [mk_size]
      have := txtA_len (f := F) (okA_of hck).2
      omega
    clear hck hTx h2
    go_wp2_with fail
    refine (parse_ap (⟨(txtA F).toArray⟩ : ByteArray) _ hts (HW.out.to HB4.out)).mono ?_
    rintro e w5 ⟨v, rfl, hown, hb5⟩
    rw [show (⟨(txtA F).toArray⟩ : ByteArray).data.toList = txtA F from rfl, HP.out] at hown ⊢
    obtain ⟨A5, c5, rfl, hrd, _⟩ := OwnL.rd entE_len hown
    have HB5 := Lib.hid (cur_step1 HB4.out hb5)
    have HR5 := Lib.hid (HR4.out.to hb5)
    have HRD := Lib.hid hrd
    have HEQ := Lib.hid (eq_ent A2 A5 c2 c5 F F w5 (by omega) (by omega) HR5.out HRD.out)
    rw [decide_eq_true rfl] at HEQ
    clear hown hb5 hrd hts
    (try simp only [])
    go_wp2_with (go_at_call 10; refine HEQ.out.mono ?_; rintro e w6 ⟨rfl, hb6⟩)
    go_ret
    exact ⟨rfl, cur_step1 HB5.out hb6⟩
  · have g2 : (eT != 0) = true := by simpa using h0
    have hnil : T = [] := by
      have h := HT.out
      unfold TxtA at h
      split at h
      · exact (congrArg Prod.fst h).symm
      · split at h
        · exact (congrArg Prod.fst h).symm
        · exact absurd (congrArg Prod.snd h).symm h0
    subst hnil
    clear h0
    go_wp2_with fail
    go_ret
    exact ⟨rfl, HB4.out⟩
end Go.Proofs.YtdbiihfoafoljaaGreatDoor
