/-
  Chapter 58: Merge of the reference.
-/
import Derived.Test.YtimmlffgokgekaaIdsR
set_option linter.unusedSimpArgs false
set_option linter.unusedVariables false
namespace Go.Proofs.Ytimmlffgokgekaa
open Go.RowKit
set_option maxRecDepth 100000
set_option maxHeartbeats 20000000
def R1R (fl : List Fl) (w : World) (iv : Value) (wr : World) : Prop := ∃ k : Nat, k ≤ fl.length ∧ iv = .int .i64 k ∧ (∀ f ∈ fl.take k, chkA f.l = 0) ∧ Below w.heap.size w wr ∧ Blk wr w.heap.size 22 (fl.map flV)
def R2R (B L R : List Ent) (ids : List Int) (gI cI base : Nat) (w : World) (v12 v13 iv : Value) (wr : World) : Prop :=
  ∃ (k g1 d1 g2 d2 : Nat), k ≤ ids.length ∧ iv = .int .i64 k ∧ v12 = .slice (some ⟨g1, 0, none⟩) (mOut B L R (ids.take k)).length d1 ∧ v13 = .slice (some ⟨g2, 0, none⟩) (mCl B L R (ids.take k)).length d2 ∧
    OwnL entE 21 39 base wr v12 (mOut B L R (ids.take k)) ∧ OwnL inE 1 42 base wr v13 (mCl B L R (ids.take k)) ∧ g1 ≠ g2 ∧ OwnL inE 1 2 base wr (.slice (some ⟨gI, 0, none⟩) ids.length cI) ids ∧ g1 ≠ gI ∧ g2 ≠ gI ∧ Below base w wr
theorem merge_r (fl : List Fl) (A1 A2 A3 : Option Addr) (c1 c2 c3 : Nat) (B L R : List Ent) (hfl : fl = [⟨A1, c1, B⟩, ⟨A2, c2, L⟩, ⟨A3, c3, R⟩]) (w : World) (hlen : (flI fl).length ≤ 400) (hsc : ∀ f ∈ fl, ∀ x ∈ f.l, x.sc.size ≤ 9223372036854775807) (hrd : ∀ f ∈ fl, Rd entE 21 w w.heap.size f.a f.l)
    (RR : Ending → World → Prop) (hbad : flE fl ≠ 0 → ∀ w', Below w.heap.size w w' → RR (.returned (.tuple #[.slice none 0 0, .slice none 0 0, .int .i64 (flE fl)])) w')
    (hgood : flE fl = 0 → ∀ v1 v2 w', OwnL entE 21 39 w.heap.size w' v1 (mOut B L R (idsU B L R)) → OwnL inE 1 42 w.heap.size w' v2 (mCl B L R (idsU B L R)) → Below w.heap.size w w' → RR (.returned (.tuple #[v1, v2, .int .i64 0])) w') :
    Calls Try.prog 11 #[.slice A1 B.length c1, .slice A2 L.length c2, .slice A3 R.length c3] w RR := by
  have hfv : fl.map flV = [.slice A1 B.length c1, .slice A2 L.length c2, .slice A3 R.length c3] := by rw [hfl]; rfl
  have h3 : fl.length = 3 := by rw [hfl]; rfl
  have hll : ∀ f ∈ fl, f.l.length ≤ 400 := by
    intro f hf
    obtain ⟨k, hk⟩ := List.getElem?_of_mem hf
    have := flI_len hlen (k + 1)
    rw [flI_next hk] at this
    simp at this
    omega
  have HID := Lib.hid (show insL [] (flI fl) = idsU B L R by rw [← idsU_ins, hfl]; simp [flI])
  have HFV := Lib.hid hfv
  have HSC := Lib.hid hsc
  have HRD := Lib.hid hrd
  have HLEN := Lib.hid hlen
  have HLL := Lib.hid hll
  have HBAD := Lib.hid hbad
  have HGOOD := Lib.hid hgood
  have H3 := Lib.hid h3
  have HFL := Lib.hid hfl
  clear hfv hsc hrd hlen hll hbad hgood h3 hfl
  go_enter Try.func11, Try.ntmps11
  go_wp2_with (fail)
  go_loopw [24] (R1R fl w) (fun i _ => 3 - (intOf i).toNat)
  case atStart => exact ⟨0, by omega, rfl, by simp, cur_new _ _, by rw [HFV.out]; exact Blk.new w _ _⟩
  case round =>
    obtain ⟨k, hk, rfl, hok, hb, hbk⟩ := hrel
    have HB := Lib.hid hb
    have HOK := Lib.hid hok
    have HBK := Lib.hid hbk
    rw [H3.out] at hk
    clear hb hok hbk
    by_cases hk3 : k < 3
    · obtain ⟨f, hf⟩ : ∃ f, fl[k]? = some f := ⟨_, List.getElem?_eq_getElem (by rw [H3.out]; exact hk3)⟩
      have hfm := List.mem_of_getElem? hf
      have HSF := Lib.hid (HSC.out f hfm)
      have HRF := Lib.hid (HRD.out f hfm)
      have HFF := Lib.hid hf
      have hlf := HLL.out f hfm
      have hcell : wr.cell? ⟨w.heap.size, k, none⟩ = some (.slice f.a f.l.length f.c) := by rw [HBK.out.cell, List.getElem?_map, hf]; rfl
      clear hf hfm
      go_wp2_with (fail)
      refine (chka_r f.l f.a f.c wr (by omega) HSF.out ((HRF.out.below HB.out).more HB.out.size)).mono ?_
      rintro e1 w2 ⟨rfl, hb2⟩
      have HB2 := Lib.hid (cur_step1 HB.out hb2)
      have HBK2 := Lib.hid (HBK.out.to hb2)
      clear hb2
      by_cases hc : chkA f.l = 0
      · rw [hc]
        have HOK2 := Lib.hid (show ∀ g ∈ fl.take (k + 1), chkA g.l = 0 by
          intro g hg
          rw [List.take_add_one, HFF.out] at hg
          rcases List.mem_append.1 hg with hg | hg
          · exact HOK.out g hg
          · simp at hg; subst hg; exact hc)
        clear hc
        go_wp2_with (fail)
        refine ⟨⟨k + 1, by rw [H3.out]; omega, rfl, HOK2.out, HB2.out, HBK2.out⟩, by show 3 - (k + 1) < 3 - k; omega⟩
      · obtain ⟨v, hv⟩ : ∃ v, chkA f.l = v := ⟨_, rfl⟩
        have gv : (v != 0) = true := by rw [← hv]; simpa using hc
        have HE := Lib.hid (show flE fl = v by rw [flE_first HFF.out HOK.out hc, hv])
        have HR := Lib.hid (HBAD.out (by rw [HE.out, ← hv]; exact hc) _ HB2.out)
        rw [hv]
        clear hc hv
        go_wp2_with (fail)
        go_ret3
        have := HR.out
        rw [HE.out] at this
        exact this
    · have hk9 : k = 3 := by omega
      subst hk9
      have HOK4 := Lib.hid (show ∀ f ∈ fl, chkA f.l = 0 by
        have := HOK.out
        rw [show fl.take 3 = fl from by rw [← H3.out]; exact List.take_length] at this
        exact this)
      have HE0 := Lib.hid (flE_zero HOK4.out)
      have RB := Lib.hid (HRD.out ⟨A1, c1, B⟩ (by rw [HFL.out]; simp))
      have RL := Lib.hid (HRD.out ⟨A2, c2, L⟩ (by rw [HFL.out]; simp))
      have RR' := Lib.hid (HRD.out ⟨A3, c3, R⟩ (by rw [HFL.out]; simp))
      have HBL := Lib.hid (show B.length ≤ 400 ∧ L.length ≤ 400 ∧ R.length ≤ 400 from ⟨HLL.out ⟨A1, c1, B⟩ (by rw [HFL.out]; simp), HLL.out ⟨A2, c2, L⟩ (by rw [HFL.out]; simp), HLL.out ⟨A3, c3, R⟩ (by rw [HFL.out]; simp)⟩)
      clear HOK hk3 hk
      obtain ⟨Wa, hWa⟩ : ∃ y, wr.alloc (.cells #[] 39) = y := ⟨_, rfl⟩
      obtain ⟨Wb, hWb⟩ : ∃ y, Wa.alloc (.cells #[] 42) = y := ⟨_, rfl⟩
      obtain ⟨Wc, hWc⟩ : ∃ y, Wb.alloc (.cells #[.slice A1 B.length c1, .slice A2 L.length c2, .slice A3 R.length c3] 22) = y := ⟨_, rfl⟩
      have sa : Wa.heap.size = wr.heap.size + 1 := by rw [← hWa]; simp
      have sb : Wb.heap.size = wr.heap.size + 1 + 1 := by rw [← hWb, ← sa]; simp
      have ba : Below wr.heap.size wr Wa := by rw [← hWa]; exact cur_new _ _
      have bb : Below Wa.heap.size Wa Wb := by rw [← hWb]; exact cur_new _ _
      have bc : Below Wb.heap.size Wb Wc := by rw [← hWc]; exact cur_new _ _
      have HO1 := Lib.hid (show OwnL entE 21 39 wr.heap.size Wc (.slice (some ⟨wr.heap.size, 0, none⟩) ([] : List Ent).length 0) [] from own_below (own_below (by rw [← hWa]; exact World.ownsRow_made wr #[] 0 (Nat.le_refl _) (Nat.zero_le _) (by simp)) bb (Nat.le_refl _)) bc (Nat.le_refl _))
      have HO2 := Lib.hid (show OwnL inE 1 42 wr.heap.size Wc (.slice (some ⟨wr.heap.size + 1, 0, none⟩) ([] : List Int).length 0) [] from own_below (by rw [← hWb, ← sa]; exact own_mono (World.ownsRow_made Wa #[] 0 (Nat.le_refl _) (Nat.zero_le _) (by simp)) ba.size) bc (Nat.le_refl _))
      have HBc := Lib.hid (show Below wr.heap.size wr Wc from cur_step1 (cur_step1 ba bb) bc)
      have HKc := Lib.hid (show Blk Wc (wr.heap.size + 1 + 1) 22 (fl.map flV) by rw [HFV.out, ← sb, ← hWc]; exact Blk.new Wb _ _)
      go_wp2_with (fail)
      have HBw := Lib.hid (cur_step1 HB.out HBc.out)
      clear ba bb bc hWa hWb hWc sa sb
      refine (ids_r fl (wr.heap.size + 1 + 1) Wc HKc.out H3.out HLEN.out (fun f hf => (HRD.out f hf).to HBw.out)).mono ?_
      rintro e w7 ⟨⟨gI, cI, rfl, hoI⟩, hb7⟩
      rw [HID.out] at hoI ⊢
      have HIL := Lib.hid (show (idsU B L R).length ≤ 400 by rw [← HID.out]; exact Nat.le_trans (insL_len [] (flI fl)) (by simpa using HLEN.out))
      have HB7 := Lib.hid (cur_step1 HBc.out hb7)
      have HO17 := Lib.hid (own_below HO1.out hb7 (Nat.le_refl _))
      have HO27 := Lib.hid (own_below HO2.out hb7 (Nat.le_refl _))
      have HN1 := Lib.hid (show wr.heap.size ≠ gI by have h1 := (own_range hoI gI rfl).1; have h2 := HKc.out.lt; omega)
      have HN2 := Lib.hid (show wr.heap.size + 1 ≠ gI by have h1 := (own_range hoI gI rfl).1; have h2 := HKc.out.lt; omega)
      have HOI := Lib.hid (own_mono hoI HBc.out.size)
      have HBR := Lib.hid HB.out
      clear hoI hb7 HB HBc
      obtain ⟨ids, hids⟩ : ∃ ids, idsU B L R = ids := ⟨_, rfl⟩
      have HIDS := Lib.hid hids
      rw [hids] at HIL HOI ⊢
      clear hids
      go_wp2_with (fail)
      go_loopw [12, 13, 42] (R2R B L R ids gI cI wr.heap.size wr) (fun _ _ i _ => ids.length - (intOf i).toNat)
      case atStart => exact ⟨0, _, _, _, _, by omega, rfl, rfl, rfl, HO17.out, HO27.out, by omega, HOI.out, HN1.out, HN2.out, HB7.out⟩
      case round =>
        clear HO17 HO27 HOI HN1 HN2 HB7 HO1 HO2 HKc HBK
        obtain ⟨k, g1, d1, g2, d2, hk, rfl, rfl, rfl, ho1, ho2, h12, hoI, h1I, h2I, hb⟩ := hrel
        have HD1 := Lib.hid ho1
        have HD2 := Lib.hid ho2
        have HDI := Lib.hid hoI
        have HBB := Lib.hid hb
        have HNN := Lib.hid (show g1 ≠ g2 ∧ g1 ≠ gI ∧ g2 ≠ gI from ⟨h12, h1I, h2I⟩)
        clear ho1 ho2 hoI hb h12 h1I h2I
        by_cases hkl : k < ids.length
        · obtain ⟨i, hi⟩ : ∃ i, ids[k]? = some i := ⟨_, List.getElem?_eq_getElem hkl⟩
          have hci := own_cell HDI.out hi
          have hk400 : k < 400 := Nat.lt_of_lt_of_le hkl HIL.out
          have HNO := Lib.hid (mOut_next (B := B) (L := L) (R := R) hi)
          have HNC := Lib.hid (mCl_next (B := B) (L := L) (R := R) hi)
          have HCW := Lib.hid (show Below w.heap.size w wr from HBR.out.trans (HBB.out.mono HBR.out.size))
          clear hi
          obtain ⟨M, hM⟩ : ∃ M, mOut B L R (ids.take k) = M := ⟨_, rfl⟩
          obtain ⟨C, hC⟩ : ∃ C, mCl B L R (ids.take k) = C := ⟨_, rfl⟩
          have HML := Lib.hid (show M.length ≤ 400 by rw [← hM]; exact Nat.le_trans (List.length_filterMap_le _ _) (Nat.le_trans (List.length_take_le _ _) (Nat.le_trans hk HIL.out)))
          have HCM := Lib.hid (show C.length ≤ 400 by rw [← hC]; exact Nat.le_trans (List.length_filter_le _ _) (Nat.le_trans (List.length_take_le _ _) (Nat.le_trans hk HIL.out)))
          rw [hM] at HD1 HNO ⊢
          rw [hC] at HD2 HNC ⊢
          clear hM hC
          go_wp2_with (fail)
          refine (find_r B A1 c1 i wr (by have := HBL.out; omega) (RB.out.to HCW.out)).mono ?_
          rintro e u1 ⟨⟨Ax, cx, rfl, hrx⟩, hbx⟩
          have HX1 := Lib.hid hrx
          have HU1 := Lib.hid hbx
          clear hrx hbx
          go_wp2_with (fail)
          refine (find_r L A2 c2 i u1 (by have := HBL.out; omega) ((RL.out.to HCW.out).to HU1.out)).mono ?_
          rintro e u2 ⟨⟨Ap, cp, rfl, hrx⟩, hbx⟩
          have HP2 := Lib.hid hrx
          have HX2 := Lib.hid (HX1.out.to hbx)
          have HU2 := Lib.hid (cur_step1 HU1.out hbx)
          clear hrx hbx
          go_wp2_with (fail)
          refine (find_r R A3 c3 i u2 (by have := HBL.out; omega) ((RR'.out.to HCW.out).to HU2.out)).mono ?_
          rintro e u3 ⟨⟨Aq, cq, rfl, hrx⟩, hbx⟩
          have HQ3 := Lib.hid hrx
          have HX3 := Lib.hid (HX2.out.to hbx)
          have HP3 := Lib.hid (HP2.out.to hbx)
          have HU3 := Lib.hid (cur_step1 HU2.out hbx)
          clear hrx hbx
          have HTK := Lib.hid (show tkI B L R i = tkn (fnd B i) (fnd L i) (fnd R i) from rfl)
          have HCK := Lib.hid (show clI B L R i = cls (fnd B i) (fnd L i) (fnd R i) from rfl)
          generalize fnd B i = x at HX3 HTK HCK ⊢
          generalize fnd L i = p at HP3 HTK HCK ⊢
          generalize fnd R i = q at HQ3 HTK HCK ⊢
          clear HX1 HX2 HP2 HU1 HU2
          go_wp2_with (fail)
          refine (same_r p x Ap Ax cp cx u3 HP3.out HX3.out).mono ?_
          rintro e u4 ⟨rfl, hb4⟩
          have HX4 := Lib.hid (HX3.out.to hb4)
          have HP4 := Lib.hid (HP3.out.to hb4)
          have HQ4 := Lib.hid (HQ3.out.to hb4)
          have HU4 := Lib.hid (cur_step1 HU3.out hb4)
          clear hb4 HX3 HP3 HQ3 HU3
          by_cases h1 : p = x
          · rw [decide_eq_true h1]
            have HTI := Lib.hid (show (tkI B L R i).toList = q.toList by rw [HTK.out]; unfold tkn; rw [if_pos h1])
            have HN2 := Lib.hid (show mCl B L R (ids.take (k + 1)) = C by rw [HNC.out, HCK.out]; unfold cls; simp [h1])
            clear h1
            go_upto_region 16 with (fail)
            refine wp_region_lit ?_
            (refine wpList_step (fun K hK => ?_); go_simp; refine hK _ _ ?_; clear hK K)
            (refine wpList_step (fun K hK => ?_); go_simp; refine hK _ _ ?_; clear hK K)
            have hq1 : q.toList.length ≤ 1 := by cases q <;> simp
            refine wpList_appL Try.enElem u4 rfl (.tmp 67) (.tmp 68) rfl _ g1 d1 M (by rfl) (own_below HD1.out HU4.out (Nat.le_refl _)) Aq cq q.toList (by rfl) HQ4.out (by have := HML.out; unfold maxLen; omega) (by have := HML.out; omega) ((cur_step1 HBB.out HU4.out).size) ?_
            intro g3 d3 w8 ho8 hg8 hat8
            have hsz8 := HU4.out.size
            have hr2 := (own_range HD2.out g2 rfl).2
            have hrI := (own_range HDI.out gI rfl).2
            have HB8 := Lib.hid ((cur_step1 HBB.out HU4.out).grown hg8 (cur_step1 HBB.out HU4.out).size (fun b hb => by injection hb with hb; rw [← hb]; exact (own_range HD1.out g1 rfl).1))
            have HE2 := Lib.hid (own_grown (own_below HD2.out HU4.out (Nat.le_refl _)) hg8 (fun b hb e => HNN.out.1 (Option.some.inj (e.symm.trans hb.symm))))
            have HEI := Lib.hid (own_grown (own_below HDI.out HU4.out (Nat.le_refl _)) hg8 (fun b hb e => HNN.out.2.1 (Option.some.inj (e.symm.trans hb.symm))))
            have HN8 := Lib.hid (show g3 ≠ g2 ∧ g3 ≠ gI ∧ g2 ≠ gI from by
              obtain ⟨n1, n2, n3⟩ := HNN.out
              rcases hat8 with h | h
              · subst h; exact ⟨n1, n2, n3⟩
              · exact ⟨by omega, by omega, n3⟩)
            obtain ⟨M2, hM2⟩ : ∃ M2, M ++ q.toList = M2 := ⟨_, rfl⟩
            have HN1 := Lib.hid (show mOut B L R (ids.take (k + 1)) = M2 by rw [HNO.out, HTI.out, hM2])
            rw [hM2] at ho8 ⊢
            have HO8 := Lib.hid ho8
            clear hM2 ho8 hg8 hat8 hq1 hsz8 hr2 hrI
            go_wp2_with (fail)
            refine ⟨⟨k + 1, g3, d3, g2, d2, hkl, rfl, by rw [HN1.out], by rw [HN2.out], ?_, ?_, HN8.out.1, HEI.out, HN8.out.2.1, HN8.out.2.2, HB8.out⟩, by show ids.length - (k + 1) < ids.length - k; omega⟩
            · rw [HN1.out]; exact HO8.out
            · rw [HN2.out]; exact HE2.out
          · rw [decide_eq_false h1]
            go_wp2_with (fail)
            refine (same_r q x Aq Ax cq cx u4 HQ4.out HX4.out).mono ?_
            rintro e u5 ⟨rfl, hb5⟩
            have HX5 := Lib.hid (HX4.out.to hb5)
            have HP5 := Lib.hid (HP4.out.to hb5)
            have HQ5 := Lib.hid (HQ4.out.to hb5)
            have HU5 := Lib.hid (cur_step1 HU4.out hb5)
            clear hb5 HX4 HP4 HQ4 HU4
            by_cases h2 : q = x
            · rw [decide_eq_true h2]
              have HTI := Lib.hid (show (tkI B L R i).toList = p.toList by rw [HTK.out]; unfold tkn; rw [if_neg h1, if_pos (Or.inl h2)])
              have HN2 := Lib.hid (show mCl B L R (ids.take (k + 1)) = C by rw [HNC.out, HCK.out]; unfold cls; simp [h1, h2])
              clear h1 h2
              go_upto_region 18 with (fail)
              refine wp_region_lit ?_
              (refine wpList_step (fun K hK => ?_); go_simp; refine hK _ _ ?_; clear hK K)
              (refine wpList_step (fun K hK => ?_); go_simp; refine hK _ _ ?_; clear hK K)
              have hq1 : p.toList.length ≤ 1 := by cases p <;> simp
              refine wpList_appL Try.enElem u5 rfl (.tmp 79) (.tmp 80) rfl _ g1 d1 M (by rfl) (own_below HD1.out HU5.out (Nat.le_refl _)) Ap cp p.toList (by rfl) HP5.out (by have := HML.out; unfold maxLen; omega) (by have := HML.out; omega) ((cur_step1 HBB.out HU5.out).size) ?_
              intro g3 d3 w8 ho8 hg8 hat8
              have hsz8 := HU5.out.size
              have hr2 := (own_range HD2.out g2 rfl).2
              have hrI := (own_range HDI.out gI rfl).2
              have HB8 := Lib.hid ((cur_step1 HBB.out HU5.out).grown hg8 (cur_step1 HBB.out HU5.out).size (fun b hb => by injection hb with hb; rw [← hb]; exact (own_range HD1.out g1 rfl).1))
              have HE2 := Lib.hid (own_grown (own_below HD2.out HU5.out (Nat.le_refl _)) hg8 (fun b hb e => HNN.out.1 (Option.some.inj (e.symm.trans hb.symm))))
              have HEI := Lib.hid (own_grown (own_below HDI.out HU5.out (Nat.le_refl _)) hg8 (fun b hb e => HNN.out.2.1 (Option.some.inj (e.symm.trans hb.symm))))
              have HN8 := Lib.hid (show g3 ≠ g2 ∧ g3 ≠ gI ∧ g2 ≠ gI from by
                obtain ⟨n1, n2, n3⟩ := HNN.out
                rcases hat8 with h | h
                · subst h; exact ⟨n1, n2, n3⟩
                · exact ⟨by omega, by omega, n3⟩)
              obtain ⟨M2, hM2⟩ : ∃ M2, M ++ p.toList = M2 := ⟨_, rfl⟩
              have HN1 := Lib.hid (show mOut B L R (ids.take (k + 1)) = M2 by rw [HNO.out, HTI.out, hM2])
              rw [hM2] at ho8 ⊢
              have HO8 := Lib.hid ho8
              clear hM2 ho8 hg8 hat8 hq1 hsz8 hr2 hrI
              go_wp2_with (fail)
              refine ⟨⟨k + 1, g3, d3, g2, d2, hkl, rfl, by rw [HN1.out], by rw [HN2.out], ?_, ?_, HN8.out.1, HEI.out, HN8.out.2.1, HN8.out.2.2, HB8.out⟩, by show ids.length - (k + 1) < ids.length - k; omega⟩
              · rw [HN1.out]; exact HO8.out
              · rw [HN2.out]; exact HE2.out
            · rw [decide_eq_false h2]
              go_wp2_with (fail)
              refine (same_r q p Aq Ap cq cp u5 HQ5.out HP5.out).mono ?_
              rintro e u6 ⟨rfl, hb6⟩
              have HX6 := Lib.hid (HX5.out.to hb6)
              have HP6 := Lib.hid (HP5.out.to hb6)
              have HU6 := Lib.hid (cur_step1 HU5.out hb6)
              clear hb6 HX5 HP5 HQ5 HU5
              by_cases h3 : q = p
              · rw [decide_eq_true h3]
                have HTI := Lib.hid (show (tkI B L R i).toList = p.toList by rw [HTK.out]; unfold tkn; rw [if_neg h1, if_pos (Or.inr h3)])
                have HN2 := Lib.hid (show mCl B L R (ids.take (k + 1)) = C by rw [HNC.out, HCK.out]; unfold cls; simp [h3])
                clear h1 h2 h3
                go_upto_region 18 with (fail)
                refine wp_region_lit ?_
                (refine wpList_step (fun K hK => ?_); go_simp; refine hK _ _ ?_; clear hK K)
                (refine wpList_step (fun K hK => ?_); go_simp; refine hK _ _ ?_; clear hK K)
                have hq1 : p.toList.length ≤ 1 := by cases p <;> simp
                refine wpList_appL Try.enElem u6 rfl (.tmp 79) (.tmp 80) rfl _ g1 d1 M (by rfl) (own_below HD1.out HU6.out (Nat.le_refl _)) Ap cp p.toList (by rfl) HP6.out (by have := HML.out; unfold maxLen; omega) (by have := HML.out; omega) ((cur_step1 HBB.out HU6.out).size) ?_
                intro g3 d3 w8 ho8 hg8 hat8
                have hsz8 := HU6.out.size
                have hr2 := (own_range HD2.out g2 rfl).2
                have hrI := (own_range HDI.out gI rfl).2
                have HB8 := Lib.hid ((cur_step1 HBB.out HU6.out).grown hg8 (cur_step1 HBB.out HU6.out).size (fun b hb => by injection hb with hb; rw [← hb]; exact (own_range HD1.out g1 rfl).1))
                have HE2 := Lib.hid (own_grown (own_below HD2.out HU6.out (Nat.le_refl _)) hg8 (fun b hb e => HNN.out.1 (Option.some.inj (e.symm.trans hb.symm))))
                have HEI := Lib.hid (own_grown (own_below HDI.out HU6.out (Nat.le_refl _)) hg8 (fun b hb e => HNN.out.2.1 (Option.some.inj (e.symm.trans hb.symm))))
                have HN8 := Lib.hid (show g3 ≠ g2 ∧ g3 ≠ gI ∧ g2 ≠ gI from by
                  obtain ⟨n1, n2, n3⟩ := HNN.out
                  rcases hat8 with h | h
                  · subst h; exact ⟨n1, n2, n3⟩
                  · exact ⟨by omega, by omega, n3⟩)
                obtain ⟨M2, hM2⟩ : ∃ M2, M ++ p.toList = M2 := ⟨_, rfl⟩
                have HN1 := Lib.hid (show mOut B L R (ids.take (k + 1)) = M2 by rw [HNO.out, HTI.out, hM2])
                rw [hM2] at ho8 ⊢
                have HO8 := Lib.hid ho8
                clear hM2 ho8 hg8 hat8 hq1 hsz8 hr2 hrI
                go_wp2_with (fail)
                refine ⟨⟨k + 1, g3, d3, g2, d2, hkl, rfl, by rw [HN1.out], by rw [HN2.out], ?_, ?_, HN8.out.1, HEI.out, HN8.out.2.1, HN8.out.2.2, HB8.out⟩, by show ids.length - (k + 1) < ids.length - k; omega⟩
                · rw [HN1.out]; exact HO8.out
                · rw [HN2.out]; exact HE2.out
              · rw [decide_eq_false h3]
                have HTI := Lib.hid (show (tkI B L R i).toList = x.toList by rw [HTK.out]; unfold tkn; rw [if_neg h1, if_neg (by rintro (h | h); exact h2 h; exact h3 h)])
                have HN2 := Lib.hid (show mCl B L R (ids.take (k + 1)) = C ++ [i] by rw [HNC.out, HCK.out]; unfold cls; simp [h1, h2, h3])
                clear h1 h2 h3
                go_upto_region 13 with (fail)
                refine wp_region_lit ?_
                (refine wpList_step (fun K hK => ?_); go_simp; refine hK _ _ ?_; clear hK K)
                (refine wpList_step (fun K hK => ?_); go_simp; refine hK _ _ ?_; clear hK K)
                have hq1 : x.toList.length ≤ 1 := by cases x <;> simp
                refine wpList_appL Try.enElem u6 rfl (.tmp 55) (.tmp 56) rfl _ g1 d1 M (by rfl) (own_below HD1.out HU6.out (Nat.le_refl _)) Ax cx x.toList (by rfl) HX6.out (by have := HML.out; unfold maxLen; omega) (by have := HML.out; omega) ((cur_step1 HBB.out HU6.out).size) ?_
                intro g3 d3 w8 ho8 hg8 hat8
                have hsz8 := HU6.out.size
                have hr2 := (own_range HD2.out g2 rfl).2
                have hrI := (own_range HDI.out gI rfl).2
                have HB8 := Lib.hid ((cur_step1 HBB.out HU6.out).grown hg8 (cur_step1 HBB.out HU6.out).size (fun b hb => by injection hb with hb; rw [← hb]; exact (own_range HD1.out g1 rfl).1))
                have HE2 := Lib.hid (own_grown (own_below HD2.out HU6.out (Nat.le_refl _)) hg8 (fun b hb e => HNN.out.1 (Option.some.inj (e.symm.trans hb.symm))))
                have HEI := Lib.hid (own_grown (own_below HDI.out HU6.out (Nat.le_refl _)) hg8 (fun b hb e => HNN.out.2.1 (Option.some.inj (e.symm.trans hb.symm))))
                have HN8 := Lib.hid (show g3 ≠ g2 ∧ g3 ≠ gI ∧ g2 ≠ gI from by
                  obtain ⟨n1, n2, n3⟩ := HNN.out
                  rcases hat8 with h | h
                  · subst h; exact ⟨n1, n2, n3⟩
                  · exact ⟨by omega, by omega, n3⟩)
                obtain ⟨M2, hM2⟩ : ∃ M2, M ++ x.toList = M2 := ⟨_, rfl⟩
                have HN1 := Lib.hid (show mOut B L R (ids.take (k + 1)) = M2 by rw [HNO.out, HTI.out, hM2])
                rw [hM2] at ho8 ⊢
                have HO8 := Lib.hid ho8
                clear hM2 ho8 hg8 hat8 hq1 hsz8 hr2 hrI
                go_upto_region 14 with (fail)
                refine wp_region_lit ?_
                (refine wpList_step (fun K hK => ?_); go_simp; refine hK _ _ ?_; clear hK K)
                (refine wpList_step (fun K hK => ?_); go_simp; refine hK _ _ ?_; clear hK K)
                (refine wpList_step (fun K hK => ?_); go_simp; refine hK _ _ ?_; clear hK K)
                refine wpList_buildE Try.clElem rfl 1 _ rfl [i] rfl (by decide) (by decide) (by rfl) ?_
                rw [show [i].flatMap inE = inE i from List.append_nil _]
                obtain ⟨W6, hW6⟩ : ∃ y, w8.alloc (.cells (inE i).toArray 42) = y := ⟨_, rfl⟩
                have hb6 : Below w8.heap.size w8 W6 := by rw [← hW6]; exact cur_new _ _
                have hk6 : W6.heap[w8.heap.size]? = some (.cells (inE i).toArray 42 (0, 0)) := by rw [← hW6]; exact heap_alloc_new _ _
                rw [hW6]
                clear hW6
                refine wpList_app1 Try.clElem W6 rfl (.tmp 58) (.tmp 61) rfl _ (some ⟨g2, 0, none⟩) d2 C (by rfl) (own_below HE2.out hb6 (Nat.le_refl _)) i w8.heap.size 1 (by rfl) hk6 (by have := HCM.out; unfold maxLen; omega) (by have := HCM.out; omega) ((cur_step1 HB8.out hb6).size) ?_
                intro g4 d4 w9 ha
                have hs6 := hb6.size
                have hr3 := (own_range HO8.out g3 rfl).2
                have hrI := (own_range HEI.out gI rfl).2
                have HB9 := Lib.hid ((cur_step1 HB8.out hb6).grown ha.grown (cur_step1 HB8.out hb6).size (own_base HE2.out))
                have HO9 := Lib.hid (own_grown (own_below HO8.out hb6 (Nat.le_refl _)) ha.grown (fun b hb e => HN8.out.1 (Option.some.inj (hb.trans e))))
                have HI9 := Lib.hid (own_grown (own_below HEI.out hb6 (Nat.le_refl _)) ha.grown (fun b hb e => HN8.out.2.2 (Option.some.inj (e.symm.trans hb.symm))))
                have HC9 := Lib.hid (show OwnL inE 1 42 _ w9 (.slice (some ⟨g4, 0, none⟩) (C.length + 1) d4) (C ++ [i]) from ha.one rfl)
                have HN9 := Lib.hid (show g3 ≠ g4 ∧ g3 ≠ gI ∧ g4 ≠ gI from by
                  obtain ⟨n1, n2, n3⟩ := HN8.out
                  rcases ha.at_ with h | h
                  · injection h with h; subst h; exact ⟨n1, n2, n3⟩
                  · exact ⟨by omega, n2, by omega⟩)
                clear ha hk6 hb6 hs6 hr3 hrI
                go_wp2_with (fail)
                refine ⟨⟨k + 1, g3, d3, g4, d4, hkl, rfl, by rw [HN1.out], by rw [HN2.out, List.length_append]; rfl, ?_, ?_, HN9.out.1, HI9.out, HN9.out.2.1, HN9.out.2.2, HB9.out⟩, by show ids.length - (k + 1) < ids.length - k; omega⟩
                · rw [HN1.out]; exact HO9.out
                · rw [HN2.out]; exact HC9.out
        · have HTK := Lib.hid (show ids.take k = ids from by rw [show k = ids.length by omega]; exact List.take_length)
          rw [HTK.out] at HD1 HD2 ⊢
          have HE1 := Lib.hid (show OwnL entE 21 39 w.heap.size wr (.slice (some ⟨g1, 0, none⟩) (mOut B L R ids).length d1) (mOut B L R (idsU B L R)) by rw [HIDS.out]; exact own_mono HD1.out HBR.out.size)
          have HE2 := Lib.hid (show OwnL inE 1 42 w.heap.size wr (.slice (some ⟨g2, 0, none⟩) (mCl B L R ids).length d2) (mCl B L R (idsU B L R)) by rw [HIDS.out]; exact own_mono HD2.out HBR.out.size)
          have HEB := Lib.hid (show Below w.heap.size w wr from HBR.out.trans (HBB.out.mono HBR.out.size))
          have HML := Lib.hid (Nat.le_trans (show (mOut B L R ids).length ≤ ids.length from List.length_filterMap_le _ _) HIL.out)
          clear HD1 HD2 HDI HTK
          generalize (mOut B L R ids).length = n1 at HE1 HML ⊢
          generalize (mCl B L R ids).length = n2 at HE2 ⊢
          have hn1 := HML.out
          go_wp2_with (fail)
          go_ret3
          exact HGOOD.out HE0.out _ _ _ HE1.out HE2.out HEB.out
end Go.Proofs.Ytimmlffgokgekaa
