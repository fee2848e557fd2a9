/-
  RegisterTexts, RegisterParses: the walks.
-/
import Derived.Test.YtpninpohligomaaGreatDoorParD54
import Derived.Test.YtpninpohligomaaGreatDoorEqu54
import Derived.Test.YtpninpohligomaaGreatDoorFew54
import Derived.Test.YtpninpohligomaaGreatDoorAwk54
import Derived.Test.YtpninpohligomaaGreatDoorWins54
set_option linter.unusedSimpArgs false
set_option linter.unusedVariables false
namespace Go.Proofs.YtpninpohligomaaGreatDoor
open Go.RowKit
set_option maxRecDepth 100000
set_option maxHeartbeats 2000000
theorem few_len {α : Type} (l : List α) (n : Nat) : (l.take n).length = min l.length n := by rw [List.length_take, Nat.min_comm]
theorem win_g (A : Option Addr) (c : Nat) (l : List Wn) (w : World) (hl : l.length ≤ 32) (hr : Rd wnE 2 w w.heap.size A l) :
    Calls Tryz.prog 18 #[.slice A l.length c] w fun e w' => ∃ A2 c2, e = .returned (.slice A2 l.length c2) ∧ OwnL wnE 2 56 w.heap.size w' (.slice A2 l.length c2) l ∧ Below w.heap.size w w' := by
  have HR := Lib.hid hr
  clear hr
  go_enter Tryz.func18, Tryz.ntmps18
  go_wp2_with fail
  go_loopw [3, 8] (WinR w l) (fun _ i _ => l.length - (intOf i).toNat)
  case atStart => exact ⟨[], l, none, 0, rfl, rfl, rfl, World.ownsRow_nil _ _ _ _, Below.refl _ _⟩
  case round =>
    obtain ⟨L, R, A2, c2, hLR, rfl, rfl, hown, hB⟩ := hrel
    have HO := Lib.hid hown
    have HB := Lib.hid hB
    clear hown hB
    have HL0 := Lib.hid hLR
    clear hLR
    cases R with
    | cons x R' =>
      have hLR := HL0.out
      have hx : l[L.length]? = some x := by rw [hLR]; simp
      have hlt : L.length < l.length := by rw [hLR]; simp
      obtain ⟨b, off, rfl, hbb, hcl⟩ := HR.out.at_ HB.out hx
      obtain ⟨c0, c1⟩ := wn_cells hcl
      have HLR := Lib.hid (show l = (L ++ [x]) ++ R' by rw [hLR]; simp)
      have hb1 := HB.out.size
      clear hcl hx hLR
      go_wp2_with (at_builtin; refine wpList_app1 Tryz.rwElem _ rfl (.tmp 12) (.tmp 18) rfl w.heap.size A2 c2 L rfl ?o1 x (wr.heap.size + 1) 1 rfl ?o2 ?o3 ?o4 ?o5 ?_)
      case o1 => exact own_below HO.out (cur_two _ _ _) (Nat.le_refl _)
      case o2 => exact two_new _ _ _
      case o3 => unfold maxLen; omega
      case o4 => omega
      case o5 => simp; omega
      intro g cap w1 ha
      obtain ⟨hb2, ho2⟩ := app1_end HB.out (fun b hb => (own_range HO.out b hb).1) (cur_two _ _ _) ha
      have HO2 := Lib.hid ho2
      have HB2 := Lib.hid hb2
      clear ha ho2 hb2
      go_wp2_with fail
      go_roundw
      case rel => exact ⟨L ++ [x], R', some ⟨g, 0, none⟩, cap, HLR.out, by simp, by simp, HO2.out, HB2.out⟩
      case measure => simp [intOf]; omega
    | nil =>
      obtain rfl : l = L := by simpa using HL0.out
      go_wp2_with fail
      go_ret
      exact ⟨A2, c2, rfl, HO.out, HB.out⟩
theorem law_texts (WA A : Option Addr) (wc c : Nat) (ws : List Wn) (l : List Tr) (w : World) (hwl : ws.length ≤ 9223372036854775807) (hwc : ws.length ≤ wc) (hl : l.length ≤ 9223372036854775807) (hc : l.length ≤ c) (hwr : Rd wnE 2 w w.heap.size WA ws) (hr : Rd trE 3 w w.heap.size A l)
    (hsz : ∀ z ∈ l, z.p.size ≤ 9223372036854775807 ∧ z.t.size ≤ 9223372036854775807) (hw : LibW w) :
    Calls Tryz.prog 5 #[.agg #[.slice WA ws.length wc, .slice A l.length c]] w fun e w' => e = .returned (.bool true) ∧ Below w.heap.size w w' := by
  have HW := Lib.hid (hwr.pre 6)
  have HR := Lib.hid (hr.pre 16)
  have HLW := Lib.hid hw
  obtain ⟨ws', hws'⟩ : ∃ ws', ws' = ws.take 6 := ⟨_, rfl⟩
  obtain ⟨l', hl'⟩ : ∃ l', l' = l.take 16 := ⟨_, rfl⟩
  have hwl' : ws'.length ≤ 6 := by rw [hws', few_len]; omega
  have hll' : l'.length ≤ 16 := by rw [hl', few_len]; omega
  have HSZ := Lib.hid (show ∀ (k : Nat) z, l'[k]? = some z → z.p.size ≤ 9223372036854775807 ∧ z.t.size ≤ 9223372036854775807 from fun k z h => hsz z (List.take_subset 16 l (by rw [← hl']; exact List.mem_of_getElem? h)))
  have e1 : min ws.length 6 = ws'.length := by rw [hws', few_len]
  have e2 : min l.length 16 = l'.length := by rw [hl', few_len]
  rw [← hws'] at HW
  rw [← hl'] at HR
  have HF := Lib.hid (few_f WA A wc ws.length c l.length)
  rw [e1, e2] at HF
  obtain ⟨T, eT, hT⟩ : ∃ T e, TxtT ws' l' = (T, e) := ⟨_, _, rfl⟩
  have HT := Lib.hid hT
  have hwc' : ws'.length ≤ wc := by omega
  have hlc' : l'.length ≤ c := by omega
  clear hwr hr hsz hws' hl' e1 e2 hT hw
  go_enter Tryz.func5, Tryz.ntmps5
  go_wp2_with fail
  refine (awake_any _).mono ?_
  rintro e w1 ⟨rfl, hb1⟩
  have hbx := (Blk.new w 38 [.slice WA ws.length wc, .slice A l.length c]).to hb1
  have hb2 := cur_step0 hb1
  have c0 : w1.cell? ⟨w.heap.size, 0, none⟩ = some (.slice WA ws.length wc) := hbx.cell 0
  have c1 : w1.cell? ⟨w.heap.size, 1, none⟩ = some (.slice A l.length c) := hbx.cell 1
  have HBX := Lib.hid hbx
  have HB := Lib.hid hb2
  clear hbx hb2 hb1
  go_wp2_with (go_at_call 15; refine (HF.out _ hl hc hwl hwc).mono ?_; rintro e w2 ⟨rfl, hb2⟩; have hx2 := HBX.out.to hb2; have d0 : w2.cell? ⟨w.heap.size, 0, none⟩ = some (.slice WA ws.length wc) := hx2.cell 0; have d1 : w2.cell? ⟨w.heap.size, 1, none⟩ = some (.slice A l.length c) := hx2.cell 1; have f0 := hx2.frozen 0; have f1 := hx2.frozen 1)
  have hx3 : Blk ((w2.setCell ⟨w.heap.size, 0, none⟩ (.slice WA ws'.length wc)).setCell ⟨w.heap.size, 1, none⟩ (.slice A l'.length c)) w.heap.size 38 [.slice WA ws'.length wc, .slice A l'.length c] := (hx2.set 0 (.slice WA ws'.length wc)).set 1 (.slice A l'.length c)
  have hb3 := below_set (below_set (cur_step1 HB.out hb2) (Nat.le_refl _) 0 (.slice WA ws'.length wc)) (Nat.le_refl _) 1 (.slice A l'.length c)
  generalize (w2.setCell ⟨w.heap.size, 0, none⟩ (.slice WA ws'.length wc)).setCell ⟨w.heap.size, 1, none⟩ (.slice A l'.length c) = w3 at hx3 hb3 ⊢
  have HB3 := Lib.hid hb3
  have HX3 := Lib.hid hx3
  clear hx3 hb3 hx2 d0 d1 f0 f1 c0 c1 hb2
  refine (text_p WA wc ws' A c l' w3 (by omega) (by omega) hwc' hlc' (HW.out.to HB3.out) (HR.out.to HB3.out) HSZ.out (HLW.out.to HB3.out)).mono ?_
  rintro e w4 ⟨rfl, hb4⟩
  rw [HT.out]
  have HX4 := Lib.hid (HX3.out.to hb4)
  have HB4 := Lib.hid (cur_step1 HB3.out hb4)
  have c0 : w4.cell? ⟨w.heap.size, 0, none⟩ = some (.slice WA ws'.length wc) := HX4.out.cell 0
  have c1 : w4.cell? ⟨w.heap.size, 1, none⟩ = some (.slice A l'.length c) := HX4.out.cell 1
  clear hb4
  (try simp only [])
  go_wp2_with fail
  have hlt4 : w.heap.size < w4.heap.size := HX4.out.lt
  have g0 : (T == T) = true := by simp
  have g1 : (eT != eT) = false := by simp
  go_region_held3 (fun w' => w'.cell? ⟨w.heap.size, 0, none⟩ = some (.slice WA ws'.length wc) ∧ w'.cell? ⟨w.heap.size, 1, none⟩ = some (.slice A l'.length c))
    (first
      | (go_keep; done)
      | (go_split_ands; refine ⟨?_, ?_⟩ <;> (rw [hb5.cell (by simp; omega)]; first | assumption | (go_keep; done)))
      | (go_split_ands; refine ⟨?_, ?_⟩ <;> (rw [hb6.cell (by have := hb5.size; simp at this ⊢; omega)]; first | assumption | (go_keep; done)))
      | (go_split_ands; refine ⟨?_, ?_⟩ <;> assumption))
    ((first
      | (go_at_call 18; refine (win_g WA wc ws' _ (by omega) (HW.out.to HB4.out.drew)).mono ?_; rintro e w5 ⟨A2, c2, rfl, hown5, hb5⟩; have HO5 := Lib.hid hown5; have HB5 := Lib.hid (cur_step1 HB4.out.drew hb5); clear hown5)
      | (go_at_call 17; refine (text_r A2 c2 ws' A c l' w5 (by omega) (by omega) (own_cap HO5.out) hlc' (own_rd wnE_len HO5.out).1 (HR.out.to HB5.out) HSZ.out).mono ?_; rintro e w6 ⟨rfl, hb6⟩; rw [HT.out]; have HB6 := Lib.hid (cur_step1 HB5.out hb6); have HX6 := Lib.hid ((Blk.to HX4.out ((Below.refl _ _).drew.trans hb5)).to hb6))))
  have c0' : w6.cell? ⟨w.heap.size, 0, none⟩ = some (.slice WA ws'.length wc) := HX6.out.cell 0
  have c1' : w6.cell? ⟨w.heap.size, 1, none⟩ = some (.slice A l'.length c) := HX6.out.cell 1
  by_cases h0 : eT = 0
  · subst h0
    have hck : (ckT ws' l').2 = 0 ∧ T = txtW ws' ++ txtT l' := by
      have h := HT.out
      unfold TxtT at h
      by_cases h9 : (ckT ws' l').2 = 0
      · rw [if_neg (by simpa using h9)] at h
        injection h with h1 h2
        exact ⟨h9, h1.symm⟩
      · rw [if_pos h9] at h
        injection h with h1 h2
        exact absurd h2 h9
    obtain ⟨hck, hTe⟩ := hck
    have HP := Lib.hid (show ParT (rowsR (splitC 10 T)) T = (ws', l', 0) by rw [hTe]; exact par_back hck)
    have hts : (⟨T.toArray⟩ : ByteArray).size ≤ 1000 := by
      rw [mk_size, hTe, List.length_append]
      obtain ⟨⟨_, h1⟩, _, h2⟩ := ckT_okay hck
      have := txtW_len h1
      have := txtT_len h2
      omega
    clear hck hTe
    go_wp2_with fail
    refine (parse_p (⟨T.toArray⟩ : ByteArray) _ hts (HLW.out.to HB6.out)).mono ?_
    rintro e w7 ⟨v1, v2, rfl, hown1, hown2, hb7⟩
    rw [show (⟨T.toArray⟩ : ByteArray).data.toList = T from rfl, HP.out] at hown1 hown2 ⊢
    obtain ⟨A5, c5, rfl, hrd5, _⟩ := OwnL.rd wnE_len hown1
    obtain ⟨A6, c6, rfl, hrd6, _⟩ := OwnL.rd trE_len hown2
    have HX7 := Lib.hid (HX6.out.to hb7)
    have HB7 := Lib.hid (cur_step1 HB6.out hb7)
    have HRD5 := Lib.hid hrd5
    have HRD6 := Lib.hid hrd6
    have z0 : w7.cell? ⟨w.heap.size, 0, none⟩ = some (.slice WA ws'.length wc) := HX7.out.cell 0
    have z1 : w7.cell? ⟨w.heap.size, 1, none⟩ = some (.slice A l'.length c) := HX7.out.cell 1
    clear hown1 hown2 hb7 hrd5 hrd6 hts c0' c1'
    (try simp only [])
    go_wp2_with (first
      | (go_at_call 20; refine (equal_wn A5 WA c5 wc ws' _ (by omega) (by exact HRD5.out) (HW.out.to (by exact HB7.out))).mono ?_; rintro e w8 ⟨rfl, hb8⟩; have z0' : w8.cell? ⟨w.heap.size, 0, none⟩ = some (.slice WA ws'.length wc) := (HX7.out.to hb8).cell 0; have z1' : w8.cell? ⟨w.heap.size, 1, none⟩ = some (.slice A l'.length c) := (HX7.out.to hb8).cell 1; have HB8 := Lib.hid (cur_step1 HB7.out hb8); have HRD8 := Lib.hid (HRD6.out.to hb8); clear hb8)
      | (go_at_call 21; refine (equal_tr A6 A c6 c l' _ (by omega) (by exact HRD8.out) (HR.out.to (by exact HB8.out))).mono ?_; rintro e w9 ⟨rfl, hb9⟩))
    go_ret
    exact ⟨rfl, cur_step1 HB8.out hb9⟩
  · have g2 : (eT != 0) = true := by simpa using h0
    have hnil : T = [] := by
      have h := HT.out
      unfold TxtT at h
      by_cases h9 : (ckT ws' l').2 = 0
      · rw [if_neg (by simpa using h9)] at h
        injection h with h1 h2
        exact absurd h2.symm h0
      · rw [if_pos h9] at h
        injection h with h1 h2
        exact h1.symm
    subst hnil
    clear h0
    go_wp2_with fail
    go_ret
    exact ⟨rfl, HB6.out⟩
theorem law_parses (p : ByteArray) (w : World) (hps : p.size ≤ 9223372036854775807) (hw : LibW w) :
    Calls Tryz.prog 6 #[.string p] w fun e w' => e = .returned (.bool true) ∧ Below w.heap.size w w' := by
  obtain ⟨m, hm⟩ : ∃ m : Nat, min p.size 400 = m := ⟨_, rfl⟩
  have hm1 : m ≤ p.size := by omega
  have hm2 : m ≤ 400 := by omega
  have hmin : min (p.size : Int) 400 = (m : Nat) := by omega
  obtain ⟨S, hS⟩ : ∃ S, p.extract 0 m = S := ⟨_, rfl⟩
  have hz : S.size ≤ 1000 := by rw [← hS, ByteArray.size_extract]; omega
  obtain ⟨ws, l, eP, hP⟩ : ∃ ws l e, ParT (rowsR (splitC 10 S.data.toList)) S.data.toList = (ws, l, e) := ⟨_, _, _, rfl⟩
  have hP2 : ParT (splitC 10 S.data.toList).dropLast S.data.toList = (ws, l, eP) := by rw [← par_same, hP]
  have hl : ws.length ≤ 32 ∧ l.length ≤ 2000 ∧ (∀ z ∈ l, z.p.size ≤ 16 ∧ z.t.size ≤ 16) ∧ (eP = 0 → TxtT ws l = (S.data.toList, 0)) := by
    rcases par_cases (rowsR (splitC 10 S.data.toList)) S.data.toList with h | ⟨ws2, l2, h, h2, h3⟩
    · rw [hP] at h
      injection h with h h4
      injection h4 with h4 h5
      subst h h4
      exact ⟨by simp, by simp, by simp, fun e => by omega⟩
    · rw [hP] at h
      injection h with h h4
      injection h4 with h4 h5
      subst h h4
      obtain ⟨⟨h5, _⟩, h6, h7⟩ := ckT_okay h2
      refine ⟨h5, h6, fun z hz => ?_, fun _ => ?_⟩
      · obtain ⟨g1, g2, _⟩ := h7 z hz
        refine ⟨nameB_16 g1, ?_⟩
        rcases g2 with g2 | g2
        · rw [isE_size g2]; omega
        · exact nameB_16 g2
      · unfold TxtT
        rw [if_neg (by simpa using h2), h3]
  have HP := Lib.hid hP
  have HP2 := Lib.hid hP2
  have HL := Lib.hid hl
  have HW := Lib.hid hw
  have HS := Lib.hid hS
  clear hP hP2 hl hw hS hm
  go_enter Tryz.func6, Tryz.ntmps6
  go_wp2_with fail
  refine (awake_any _).mono ?_
  rintro e w1 ⟨rfl, hb1⟩
  have HB1 := Lib.hid hb1
  clear hb1
  go_wp2_with fail
  rw [HS.out]
  refine (parse_p S _ hz (HW.out.to HB1.out)).mono ?_
  rintro e w2 ⟨v1, v2, rfl, hown1, hown2, hb2⟩
  rw [HP.out] at hown1 hown2 ⊢
  obtain ⟨A1, c1, rfl, _, _⟩ := OwnL.rd wnE_len hown1
  obtain ⟨A2, c2, rfl, _, _⟩ := OwnL.rd trE_len hown2
  have HB2 := Lib.hid (cur_step1 HB1.out hb2)
  have HO1 := Lib.hid hown1
  have HO2 := Lib.hid hown2
  clear hown1 hown2 hb2
  (try simp only [])
  go_wp2_with fail
  refine (parse_r S _ hz).mono ?_
  rintro e w3 ⟨v1, v2, rfl, hown3, hown4, hb3⟩
  rw [HP2.out] at hown3 hown4 ⊢
  obtain ⟨A3, c3, rfl, hrd3, _⟩ := OwnL.rd wnE_len hown3
  obtain ⟨A4, c4, rfl, hrd4, _⟩ := OwnL.rd trE_len hown4
  have HB3 := Lib.hid (cur_step1 HB2.out hb3)
  have HO13 := Lib.hid (own_below HO1.out hb3 (Nat.le_refl _))
  have HO23 := Lib.hid (own_below HO2.out hb3 (Nat.le_refl _))
  have HR3 := Lib.hid hrd3
  have HR4 := Lib.hid hrd4
  clear hown3 hown4 hb3 hrd3 hrd4
  (try simp only [])
  have g1 : (eP != eP) = false := by simp
  obtain ⟨T, eT, hT⟩ : ∃ T e, TxtT ws l = (T, e) := ⟨_, _, rfl⟩
  have HT := Lib.hid hT
  clear hT
  go_wp2_with (first
    | (go_at_call 18; refine (win_g A1 c1 ws _ HL.out.1 (by exact (own_rd wnE_len HO13.out).1)).mono ?_; rintro e w4 ⟨A5, c5, rfl, hown5, hb4⟩; have HO5 := Lib.hid hown5; have HX4 := Lib.hid hb4; have HB4 := Lib.hid (cur_step1 HB3.out hb4); clear hown5 hb4)
    | (go_at_call 23; refine (equal_rw A5 A3 c5 c3 ws _ (by have := HL.out.1; omega) (by exact (own_rd wnE_len HO5.out).1) (HR3.out.to HX4.out)).mono ?_; rintro e w5 ⟨rfl, hb5⟩; have HX5 := Lib.hid (cur_step1 HX4.out hb5); have HB5 := Lib.hid (cur_step1 HB4.out hb5); clear hb5)
    | (go_at_call 21; refine (equal_tr A2 A4 c2 c4 l _ (by have := HL.out.2.1; omega) (((own_rd trE_len HO23.out).1).to HX5.out) (HR4.out.to HX5.out)).mono ?_; rintro e w6 ⟨rfl, hb6⟩; have HX6 := Lib.hid (cur_step1 HX5.out hb6); have HB6 := Lib.hid (cur_step1 HB5.out hb6); clear hb6))
  refine (text_p A1 c1 ws A2 c2 l _ (by have := HL.out.1; omega) HL.out.2.1 (own_cap HO13.out) (own_cap HO23.out) (((own_rd wnE_len HO13.out).1).to HX6.out) (((own_rd trE_len HO23.out).1).to HX6.out) (fun k z hz => by have := HL.out.2.2.1 z (List.mem_of_getElem? hz); omega) (HW.out.to HB6.out)).mono ?_
  rintro e w7 ⟨rfl, hb7⟩
  rw [HT.out]
  have HB7 := Lib.hid (cur_step1 HB6.out hb7)
  clear hb7
  (try simp only [])
  by_cases h0 : eP = 0
  · have h1 := HL.out.2.2.2 h0
    rw [HT.out] at h1
    injection h1 with h1 h2
    subst h1 h2 h0
    have g2 : ((⟨S.data.toList.toArray⟩ : ByteArray).toList == S.toList) = true := by rw [ByteArray.toList_eq]; simp
    go_wp2_with fail
    go_ret
    exact ⟨rfl, HB7.out⟩
  · have g2 : (eP != 0) = true := by simpa using h0
    clear h0
    go_wp2_with fail
    go_ret
    exact ⟨rfl, HB7.out⟩
end Go.Proofs.YtpninpohligomaaGreatDoor
