/-
  Chapter 55: the program's Accept.
-/
import Derived.Test.YtckbhdokfkabfaaMps55
import Derived.Test.YtckbhdokfkabfaaAcp55
set_option linter.unusedSimpArgs false
set_option linter.unusedVariables false
namespace Go.Proofs.Ytckbhdokfkabfaa
open Go.RowKit
set_option maxRecDepth 100000
set_option maxHeartbeats 8000000
theorem stm_tak {w : World} {b n : Nat} {M : List Dty} {L : List Apd} {k : Nat} {x : Dty} {z : Apd} (hx : M[k]? = some x) (hz : L[k]? = some z) (h : StM w b n (putS (putS (takB M L k) x.d z.one) x.d z.two)) : StM w b n (takB M L (k + 1)) := by
  have e : putS (putS (takB M L k) x.d z.one) x.d z.two = takB M L (k + 1) := by
    funext d s
    unfold putS
    rw [tak_next hx hz, seq_comm s z.two, seq_comm s z.one, show (d == x.d) = (x.d == d) from Bool.eq_iff_iff.2 ⟨fun h => beq_iff_eq.2 (beq_iff_eq.1 h).symm, fun h => beq_iff_eq.2 (beq_iff_eq.1 h).symm⟩]
    cases (x.d == d) <;> cases seq z.one s <;> cases seq z.two s <;> cases takB M L k d s <;> rfl
  rwa [e] at h
theorem accept_p (A B C : Option Addr) (c d e : Nat) (M : List Dty) (U : List Ump) (L : List Apd) (r : Int) (w : World) (h : TaskR w A B M U) (hL : Rd apE 3 w w.heap.size C L) (hLl : L.length ≤ 1000) (hLs : ∀ z ∈ L, z.one.size ≤ 9223372036854775807 ∧ z.two.size ≤ 9223372036854775807) (hv : accF M U L = r) :
    Calls Try.prog 24 #[.slice A M.length c, .slice B U.length d, .slice C L.length e] w fun e w' => e = .returned (.int .i64 r) ∧ Below w.heap.size w w' := by
  obtain ⟨q, hq⟩ : ∃ q, ckA M U = q := ⟨_, rfl⟩
  have HV := Lib.hid (show thenR q (if eqM M L = false then 1 else acR M U L) = r by rw [← hq]; exact hv)
  have HC := Lib.hid (check_p A B c d M U q w h hq)
  have HT := Lib.hid h
  have HL := Lib.hid hL
  have HLS := Lib.hid hLs
  have HQ := Lib.hid hq
  have hml := h.ml
  have hul := h.ul
  clear hq hv h hL hLs
  go_enter Try.func24, Try.ntmps24
  go_wp2_with fail
  refine HC.out.mono ?_
  rintro e w1 ⟨rfl, hb1⟩
  have HB1 := Lib.hid hb1
  clear hb1 HC
  by_cases hq0 : q = 0
  · subst hq0
    have HOK := Lib.hid (ck_ok HQ.out)
    have HT1 := Lib.hid (HT.out.to HB1.out)
    have HL1 := Lib.hid (HL.out.to HB1.out)
    obtain ⟨v, hv⟩ : ∃ v, eqM M L = v := ⟨_, rfl⟩
    have HEQ := Lib.hid (eqf_p A C c e M L v w1 (by omega) (by omega) HT1.out.m HL1.out hv)
    have HV1 := Lib.hid (show (if v = false then 1 else acR M U L) = r by rw [← hv]; exact HV.out)
    have HVE := Lib.hid hv
    clear HV HT HL HQ hv
    cases v
    · have HE := Lib.hid (show (1 : Int) = r from HV1.out)
      go_wp2_with (go_at_call 46; refine HEQ.out.mono ?_; rintro e w2 ⟨rfl, hb2⟩; have HB2 := Lib.hid (cur_step1 HB1.out hb2); clear hb2)
      go_ret
      exact ⟨ret_int HE.out, HB2.out⟩
    · have HV2 := Lib.hid (show acR M U L = r from HV1.out)
      have HLEN := Lib.hid (show M.length = L.length by
        have := HVE.out
        unfold eqM at this
        rw [Bool.and_eq_true] at this
        exact of_decide_eq_true this.1)
      clear HV1
      have hmk : ∀ w, Sem.run Try.prog (Instr.makeMap 81 none) w = .ok (.map (some w.heap.size)) (w.alloc (.map #[] 0)) := fun w => run_makeMap _ w
      go_wp2_with (go_at_call 46; refine HEQ.out.mono ?_; rintro e w2 ⟨rfl, hb2⟩; have HB2 := Lib.hid hb2; clear hb2)
      have HS3 := Lib.hid (StM.made w2)
      have h3 := cur_new w2 (.map #[] 0)
      generalize w2.alloc (.map #[] 0) = w3 at HS3 h3 ⊢
      obtain ⟨bm, hbm⟩ : ∃ b, w2.heap.size = b := ⟨_, rfl⟩
      rw [hbm] at HS3 ⊢
      have HB3 := Lib.hid (cur_step1 HB2.out h3)
      have HBM := Lib.hid (show w1.heap.size ≤ bm by rw [← hbm]; exact HB2.out.size)
      clear h3 hbm HEQ HB2
      go_loopw [28] (fun iv wr => ∃ k : Nat, k ≤ L.length ∧ iv = .int .i64 k ∧ StM wr bm (2 * k) (takB M L k) ∧ (∀ j, j < k → acN M U L j = 0) ∧ Below w1.heap.size w1 wr) (fun i _ => L.length - (intOf i).toNat)
      case atStart => exact ⟨0, by omega, rfl, HS3.out, fun j h => by omega, HB3.out⟩
      case round =>
        obtain ⟨k, hk, rfl, hs, hno, hb⟩ := hrel
        rename World => wo
        have HS := Lib.hid hs
        have HNO := Lib.hid hno
        have HB := Lib.hid hb
        clear hs hno hb
        by_cases hkl : k < L.length
        · obtain ⟨z, hz⟩ : ∃ z, L[k]? = some z := ⟨_, List.getElem?_eq_getElem hkl⟩
          have hkm : k < M.length := by have := HLEN.out; omega
          obtain ⟨x, hx⟩ : ∃ x, M[k]? = some x := ⟨_, List.getElem?_eq_getElem hkm⟩
          have HX := Lib.hid hx
          have HZ := Lib.hid hz
          have HZS := Lib.hid (HLS.out z (List.mem_of_getElem? hz))
          have HXR := Lib.hid (HOK.out.rng x (List.mem_of_getElem? hx))
          have HAC := Lib.hid (acN_at (U := U) hx hz)
          obtain ⟨b5, off5, hA, hb5, hcl5⟩ := HT1.out.m.at_ HB.out hx
          obtain ⟨b6, off6, hC, hb6, hcl6⟩ := HL1.out.at_ HB.out hz
          have HM5 := Lib.hid (show ∀ w', Below w1.heap.size w1 w' → (w'.cell? ⟨b5, off5 + k * 4, none⟩ = some (.int .i64 x.m) ∧ w'.cell? ⟨b5, off5 + k * 4 + 1, none⟩ = some (.int .i64 x.d) ∧ w'.cell? ⟨b5, off5 + k * 4 + 2, none⟩ = some (.string x.h) ∧ w'.cell? ⟨b5, off5 + k * 4 + 3, none⟩ = some (.string x.a)) ∧ b5 < w'.heap.size from fun w' hb => by
            obtain ⟨b5', off5', hA', hb5', hcl5'⟩ := HT1.out.m.at_ hb hx
            rw [hA] at hA'
            injection hA' with hA'
            injection hA' with e1 e2 _
            subst e1 e2
            exact ⟨dt_cells hcl5', Nat.lt_of_lt_of_le hb5' hb.size⟩)
          have HFO := Lib.hid (fun w' (hb : Below w1.heap.size w1 w') => find_p B d U z.one _ w' (by omega) (HT1.out.to hb).u.rd rfl)
          have HFT := Lib.hid (fun w' (hb : Below w1.heap.size w1 w') => find_p B d U z.two _ w' (by omega) (HT1.out.to hb).u.rd rfl)
          obtain ⟨fo, hfo⟩ : ∃ f, fnd U z.one = f := ⟨_, rfl⟩
          obtain ⟨ft, hft⟩ : ∃ f, fnd U z.two = f := ⟨_, rfl⟩
          rw [hfo] at HFO
          rw [hft] at HFT
          have HFE := Lib.hid (⟨hfo, hft⟩ : fnd U z.one = fo ∧ fnd U z.two = ft)
          obtain ⟨d0, d1, d2⟩ := ap_cells hcl6
          have hbw6 : b6 < wo.heap.size := Nat.lt_of_lt_of_le hb6 HB.out.size
          obtain ⟨zm, zo, zt⟩ := z
          dsimp only at d0 d1 d2 HFO HFT HZS
          rw [hC, hA]
          have HCE := Lib.hid hC
          have HAE := Lib.hid hA
          clear hcl5 hcl6 hx hz hfo hft hb5 hb6 hC hA
          go_upto_region 10 with (fail)
          have h4 := cur_new wo (.cells #[.int .i64 zm, .string zo, .string zt] 43)
          have k4 := Blk.new wo 43 [.int .i64 zm, .string zo, .string zt]
          have HS4 := Lib.hid (HS.out.to h4)
          generalize wo.alloc (.cells #[.int .i64 zm, .string zo, .string zt] 43) = w4 at h4 k4 HS4 ⊢
          obtain ⟨g4, hg4⟩ : ∃ g, wo.heap.size = g := ⟨_, rfl⟩
          rw [hg4] at k4 ⊢
          have HB4 := Lib.hid (cur_step1 HB.out h4)
          have HK4 := Lib.hid k4
          have a0 : w4.cell? ⟨g4, 0, none⟩ = some (.int .i64 zm) := k4.cell 0
          have a1 : w4.cell? ⟨g4, 1, none⟩ = some (.string zo) := k4.cell 1
          have a2 : w4.cell? ⟨g4, 2, none⟩ = some (.string zt) := k4.cell 2
          have l4 := k4.lt
          clear h4 k4 hg4 d0 d1 d2 hbw6 HS HB
          go_region_held3 (fun w' => w'.cell? ⟨g4, 0, none⟩ = some (.int .i64 zm) ∧ w'.cell? ⟨g4, 1, none⟩ = some (.string zo) ∧ w'.cell? ⟨g4, 2, none⟩ = some (.string zt))
            (first
              | (go_keep; done)
              | exact ⟨HK5.out.cell 0, HK5.out.cell 1, HK5.out.cell 2⟩
              | exact ⟨HK6.out.cell 0, HK6.out.cell 1, HK6.out.cell 2⟩)
            ((first
              | (go_at_call 48; refine (HFO.out _ HB4.out.drew).mono ?_; rintro e w5 ⟨rfl, hb5⟩; have HB5 := Lib.hid (cur_step1 HB4.out.drew hb5); have HK5 := Lib.hid (Blk.to (w := w4.drew) HK4.out hb5); have HS5 := Lib.hid (StM.to (w := w4.drew) HS4.out hb5); clear hb5; clear HFO)
              | (go_at_call 48; refine (HFT.out w5 HB5.out).mono ?_; rintro e w6 ⟨rfl, hb6⟩; have HB6 := Lib.hid (cur_step1 HB5.out hb6); have HK6 := Lib.hid (HK5.out.to hb6); have HS6 := Lib.hid (HS5.out.to hb6); clear hb6)))
          have HD := Lib.hid (show ∀ w', Below w1.heap.size w1 w' → w'.cell? ⟨b5, off5 + k * 4 + 1, none⟩ = some (.int .i64 x.d) ∧ b5 < w'.heap.size from fun w' hb => ⟨(HM5.out w' hb).1.2.1, (HM5.out w' hb).2⟩)
          obtain ⟨xd, hxd⟩ : ∃ xd, x.d = xd := ⟨_, rfl⟩
          rw [hxd] at HD
          have HXD := Lib.hid hxd
          obtain ⟨e5, e6⟩ := HD.out w6 HB6.out
          have a0 : w6.cell? ⟨g4, 0, none⟩ = some (.int .i64 zm) := HK6.out.cell 0
          have a1 : w6.cell? ⟨g4, 1, none⟩ = some (.string zo) := HK6.out.cell 1
          have a2 : w6.cell? ⟨g4, 2, none⟩ = some (.string zt) := HK6.out.cell 2
          have l4 := HK6.out.lt
          have l5 := hkm
          clear hxd HB5 HK5 HS5 HK4 HB4 HS4 HFT
          go_wp2_with fail
          go_cut [13, 14] from 41 to 56 (fun v13 v14 wx => ∃ (ga gb : Nat), v13 = .pointer (some ⟨ga, 0, none⟩) ∧ v14 = .pointer (some ⟨gb, 0, none⟩) ∧ Blk wx ga 84 [.int .i64 xd, .string zo] ∧ Blk wx gb 84 [.int .i64 xd, .string zt] ∧ Below w6.heap.size w6 wx)
          case first =>
            go_region_held3 (fun w' => w'.cell? ⟨b5, off5 + k * 4 + 1, none⟩ = some (.int .i64 xd) ∧ w'.cell? ⟨g4, 1, none⟩ = some (.string zo) ∧ w'.cell? ⟨g4, 2, none⟩ = some (.string zt))
              ((go_keep; done))
              (fail)
            · have hk1 := (Blk.new w6 84 [.int .i64 xd, .string zo]).to (cur_new (w6.alloc (.cells #[.int .i64 xd, .string zo] 84)) (.cells #[.int .i64 xd, .string zt] 84))
              have hk2 := two_new w6 (Obj.cells #[.int .i64 xd, .string zo] 84) (Obj.cells #[.int .i64 xd, .string zt] 84)
              have hb7 := (cur_two w6 (Obj.cells #[.int .i64 xd, .string zo] 84) (Obj.cells #[.int .i64 xd, .string zt] 84)).drew
              go_wp2_with (fail)
              go_meet
              case rel => exact ⟨_, _, rfl, rfl, hk1, hk2, hb7⟩
            · have hk1 := (Blk.new w6 84 [.int .i64 xd, .string zt]).to (cur_new (w6.alloc (.cells #[.int .i64 xd, .string zt] 84)) (.cells #[.int .i64 xd, .string zo] 84))
              have hk2 := two_new w6 (Obj.cells #[.int .i64 xd, .string zt] 84) (Obj.cells #[.int .i64 xd, .string zo] 84)
              have hb7 := (cur_two w6 (Obj.cells #[.int .i64 xd, .string zt] 84) (Obj.cells #[.int .i64 xd, .string zo] 84)).drew
              go_wp2_with (fail)
              go_meet
              case rel => exact ⟨_, _, rfl, rfl, hk2, hk1, hb7⟩
          case rest =>
            obtain ⟨ga, gb, rfl, rfl, hka, hkb, hb7⟩ := hcut
            rename World => w7
            have HKA := Lib.hid hka
            have HKB := Lib.hid hkb
            have HB7 := Lib.hid (cur_step1 HB6.out hb7)
            have HS7 := Lib.hid (HS6.out.to hb7)
            have HK7 := Lib.hid (HK6.out.to hb7)
            have HBF := Lib.hid (cur_step1 HB1.out HB7.out)
            clear hka hkb hb7 e5 e6 a0 a1 a2 l4 HB6 HS6 HK6
            have a1 : w7.cell? ⟨g4, 1, none⟩ = some (.string zo) := HK7.out.cell 1
            have a2 : w7.cell? ⟨g4, 2, none⟩ = some (.string zt) := HK7.out.cell 2
            have es := slt_to zo zt
            have FIN := Lib.hid (show ∀ q : Int, acE M U L k x ⟨zm, zo, zt⟩ = q → q ≠ 0 → q = r from fun q h1 h2 => by
              rw [← h1, ← HAC.out]
              exact ac_of HNO.out hkl (by rw [HAC.out, h1]; exact h2) HV2.out)
            by_cases h1 : fo < 0
            · have HE := Lib.hid (FIN.out 6 (by unfold acE; rw [HFE.out.1, decide_eq_true h1]; rfl) (by decide))
              go_wp2_with fail
              go_ret
              exact ⟨ret_int HE.out, HBF.out⟩
            · by_cases h2 : ft < 0
              · have HE := Lib.hid (FIN.out 6 (by unfold acE; rw [HFE.out.1, HFE.out.2, decide_eq_true h2, Bool.or_true]; rfl) (by decide))
                go_wp2_with fail
                go_ret
                exact ⟨ret_int HE.out, HBF.out⟩
              · have HN6 := Lib.hid (show ¬ (decide (fnd U zo < 0) || decide (fnd U zt < 0)) = true by rw [HFE.out.1, HFE.out.2, decide_eq_false h1, decide_eq_false h2]; decide)
                cases h3 : slt zo zt
                · rw [h3] at es
                  have HE := Lib.hid (FIN.out 8 (by unfold acE; rw [if_neg HN6.out, if_pos h3]) (by decide))
                  go_wp2_with fail
                  go_ret
                  exact ⟨ret_int HE.out, HBF.out⟩
                · rw [h3] at es
                  obtain ⟨i, yo, hi, hyo, -⟩ := fnd_at (U := U) (s := zo) (by rw [HFE.out.1]; exact h1)
                  obtain ⟨j, yt, hj, hyt, -⟩ := fnd_at (U := U) (s := zt) (by rw [HFE.out.2]; exact h2)
                  rw [HFE.out.1] at hi
                  rw [HFE.out.2] at hj
                  subst hi
                  subst hj
                  have hil : i < U.length := (List.getElem?_eq_some_iff.1 hyo).1
                  have hjl : j < U.length := (List.getElem?_eq_some_iff.1 hyt).1
                  obtain ⟨v1, hv1⟩ : ∃ v, mayB x yo = v := ⟨_, rfl⟩
                  obtain ⟨v2, hv2⟩ : ∃ v, mayB x yt = v := ⟨_, rfl⟩
                  have H8 := Lib.hid (show ¬ slt zo zt = false by rw [h3]; decide)
                  have HMV := Lib.hid (show mayAt U (fnd U zo) x = v1 ∧ mayAt U (fnd U zt) x = v2 by rw [HFE.out.1, HFE.out.2, may_of hyo, may_of hyt]; exact ⟨hv1, hv2⟩)
                  have HMO := Lib.hid (fun w' (hb : Below w1.heap.size w1 w') => may_p x yo v1 w' (HT1.out.us yo (List.mem_of_getElem? hyo)).2.2 ((HT1.out.to hb).u.ds yo (List.mem_of_getElem? hyo)) hv1)
                  have HMT := Lib.hid (fun w' (hb : Below w1.heap.size w1 w') => may_p x yt v2 w' (HT1.out.us yt (List.mem_of_getElem? hyt)).2.2 ((HT1.out.to hb).u.ds yt (List.mem_of_getElem? hyt)) hv2)
                  obtain ⟨b8, off8, hB8, hb8, hcl8⟩ := HT1.out.u.rd.at_ (Below.refl _ _) hyo
                  obtain ⟨b9, off9, hB9, hb9, hcl9⟩ := HT1.out.u.rd.at_ (Below.refl _ _) hyt
                  rw [hB8] at hB9
                  injection hB9 with hB9
                  injection hB9 with e7 e8 _
                  subst e7 e8
                  obtain ⟨⟨c0, c1, c2, c3⟩, c5⟩ := HM5.out w1 (Below.refl _ _)
                  obtain ⟨u0, u1, u2⟩ := um_cells hcl8
                  obtain ⟨t0, t1, t2⟩ := um_cells hcl9
                  obtain ⟨xm, xd', xh, xa⟩ := x
                  obtain ⟨on, om, os, oA, oc⟩ := yo
                  obtain ⟨tn, tm, ts, tA, tc⟩ := yt
                  dsimp only at c0 c1 c2 c3 u0 u1 u2 t0 t1 t2
                  have hxd' : xd' = xd := HXD.out
                  subst hxd'
                  simp only [dtE, umE] at HMO HMT
                  obtain ⟨ol, hol⟩ : ∃ q, os.length = q := ⟨_, rfl⟩
                  obtain ⟨tl, htl⟩ : ∃ q, ts.length = q := ⟨_, rfl⟩
                  rw [hol] at u2
                  rw [htl] at t2
                  simp only [hol] at HMO
                  simp only [htl] at HMT
                  have HCS := Lib.hid (show ∀ w', Below w1.heap.size w1 w' → w'.cell? ⟨b5, off5 + k * 4, none⟩ = some (.int .i64 xm) ∧ w'.cell? ⟨b5, off5 + k * 4 + 1, none⟩ = some (.int .i64 xd') ∧ w'.cell? ⟨b5, off5 + k * 4 + 2, none⟩ = some (.string xh) ∧ w'.cell? ⟨b5, off5 + k * 4 + 3, none⟩ = some (.string xa) ∧ w'.cell? ⟨b8, off8 + i * 3, none⟩ = some (.string on) ∧ w'.cell? ⟨b8, off8 + i * 3 + 1, none⟩ = some (.string om) ∧ w'.cell? ⟨b8, off8 + i * 3 + 2, none⟩ = some (.slice oA ol oc) ∧ w'.cell? ⟨b8, off8 + j * 3, none⟩ = some (.string tn) ∧ w'.cell? ⟨b8, off8 + j * 3 + 1, none⟩ = some (.string tm) ∧ w'.cell? ⟨b8, off8 + j * 3 + 2, none⟩ = some (.slice tA tl tc) from fun w' hb => ⟨(hb.cell c5).trans c0, (hb.cell c5).trans c1, (hb.cell c5).trans c2, (hb.cell c5).trans c3, (hb.cell hb8).trans u0, (hb.cell hb8).trans u1, (hb.cell hb8).trans u2, (hb.cell hb8).trans t0, (hb.cell hb8).trans t1, (hb.cell hb8).trans t2⟩)
                  have l5 : b5 < w7.heap.size := (HM5.out w7 HB7.out).2
                  have l8 : b8 < w7.heap.size := Nat.lt_of_lt_of_le hb8 HB7.out.size
                  have i1 : (0 : Int) ≤ (i : Int) := by omega
                  have i2 : (i : Int) < (U.length : Int) := by omega
                  have i3 : (0 : Int) ≤ (j : Int) := by omega
                  have i4 : (j : Int) < (U.length : Int) := by omega
                  have i5 : (0 : Int) ≤ (k : Int) := by omega
                  have i6 : (k : Int) < (M.length : Int) := by omega
                  have HBE := Lib.hid hB8
                  rw [hB8]
                  clear hyo hyt hv1 hv2 hcl8 hcl9 c0 c1 c2 c3 c5 u0 u1 u2 t0 t1 t2 hol htl hB8 hb8 hb9 HM5 HD
                  go_upto_region 16 with (fail)
                  obtain ⟨q0, q1, q2, q3, q4, q5, q6, q7, q8, q9⟩ := HCS.out w7 HB7.out
                  obtain ⟨CS, hCS⟩ : ∃ CS : List (Nat × Nat × Value), CS = [(b5, off5 + k * 4, .int .i64 xm), (b5, off5 + k * 4 + 1, .int .i64 xd'), (b5, off5 + k * 4 + 2, .string xh), (b5, off5 + k * 4 + 3, .string xa), (b8, off8 + i * 3, .string on), (b8, off8 + i * 3 + 1, .string om), (b8, off8 + i * 3 + 2, .slice oA ol oc), (b8, off8 + j * 3, .string tn), (b8, off8 + j * 3 + 1, .string tm), (b8, off8 + j * 3 + 2, .slice tA tl tc)] := ⟨_, rfl⟩
                  have K3 := Lib.hid (show Keep w7 w7 CS by
                    rw [hCS]
                    refine ⟨Below.refl _ _, ?_⟩
                    intro c hc
                    simp only [List.mem_cons, List.mem_nil_iff, or_false] at hc
                    rcases hc with rfl | rfl | rfl | rfl | rfl | rfl | rfl | rfl | rfl | rfl <;> exact ⟨by assumption, by assumption⟩)
                  have k0 : ∀ s : Wd w7 CS, s.w.cell? ⟨b5, off5 + k * 4, none⟩ = some (.int .i64 xm) := fun s => s.h.get (by simp [hCS])
                  have k1 : ∀ s : Wd w7 CS, s.w.cell? ⟨b5, off5 + k * 4 + 1, none⟩ = some (.int .i64 xd') := fun s => s.h.get (by simp [hCS])
                  have k2 : ∀ s : Wd w7 CS, s.w.cell? ⟨b5, off5 + k * 4 + 2, none⟩ = some (.string xh) := fun s => s.h.get (by simp [hCS])
                  have k3 : ∀ s : Wd w7 CS, s.w.cell? ⟨b5, off5 + k * 4 + 3, none⟩ = some (.string xa) := fun s => s.h.get (by simp [hCS])
                  have k4 : ∀ s : Wd w7 CS, s.w.cell? ⟨b8, off8 + i * 3, none⟩ = some (.string on) := fun s => s.h.get (by simp [hCS])
                  have k5 : ∀ s : Wd w7 CS, s.w.cell? ⟨b8, off8 + i * 3 + 1, none⟩ = some (.string om) := fun s => s.h.get (by simp [hCS])
                  have k6 : ∀ s : Wd w7 CS, s.w.cell? ⟨b8, off8 + i * 3 + 2, none⟩ = some (.slice oA ol oc) := fun s => s.h.get (by simp [hCS])
                  have k7 : ∀ s : Wd w7 CS, s.w.cell? ⟨b8, off8 + j * 3, none⟩ = some (.string tn) := fun s => s.h.get (by simp [hCS])
                  have k8 : ∀ s : Wd w7 CS, s.w.cell? ⟨b8, off8 + j * 3 + 1, none⟩ = some (.string tm) := fun s => s.h.get (by simp [hCS])
                  have k9 : ∀ s : Wd w7 CS, s.w.cell? ⟨b8, off8 + j * 3 + 2, none⟩ = some (.slice tA tl tc) := fun s => s.h.get (by simp [hCS])
                  have hex : ∀ s : Wd w7 CS, ∃ s' : Wd w7 CS, s.w = s'.w := fun s => ⟨s, rfl⟩
                  haveI hne : Nonempty (Wd w7 CS) := ⟨⟨_, K3.out⟩⟩
                  clear hCS q0 q1 q2 q3 q4 q5 q6 q7 q8 q9 es h1 h2 h3
                  cases v1
                  · have HE := Lib.hid (FIN.out 13 (by unfold acE; rw [if_neg HN6.out, if_neg H8.out, if_pos (by rw [HMV.out.1, HMV.out.2]; rfl)]) (by decide))
                    refine wp_region_wd w7 CS (by kernel_rfl) (by kernel_rfl) K3.out.drew ?_
                    iterate 9 (go_big_quiet_step ((go_at_call 12; refine (HMO.out _ (cur_step1 HB7.out (Wd.h _).1)).mono ?_; rintro e w8 ⟨rfl, hb8⟩; exact ⟨rfl, ⟨w8, (Wd.h _).to hb8⟩, rfl⟩)))
                    repeat (go_big_quiet_step ((go_at_call 12; refine (HMT.out _ (cur_step1 HB7.out (Wd.h _).1)).mono ?_; rintro e w8 ⟨rfl, hb8⟩; exact ⟨rfl, ⟨w8, (Wd.h _).to hb8⟩, rfl⟩)))
                    refine wpQuiet_nil ?_
                    rintro w8 ⟨s8, hs8⟩
                    have HB78 := Lib.hid (show Below w7.heap.size w7 w8 by rw [hs8]; exact s8.h.1)
                    clear hs8 s8 k0 k1 k2 k3 k4 k5 k6 k7 k8 k9 hex hne K3 CS
                    go_wp2_with fail
                    go_ret
                    exact ⟨ret_int HE.out, cur_step1 HBF.out HB78.out⟩
                  · cases v2
                    · have HE := Lib.hid (FIN.out 13 (by unfold acE; rw [if_neg HN6.out, if_neg H8.out, if_pos (by rw [HMV.out.1, HMV.out.2]; rfl)]) (by decide))
                      refine wp_region_wd w7 CS (by kernel_rfl) (by kernel_rfl) K3.out.drew ?_
                      iterate 9 (go_big_quiet_step ((go_at_call 12; refine (HMO.out _ (cur_step1 HB7.out (Wd.h _).1)).mono ?_; rintro e w8 ⟨rfl, hb8⟩; exact ⟨rfl, ⟨w8, (Wd.h _).to hb8⟩, rfl⟩)))
                      repeat (go_big_quiet_step ((go_at_call 12; refine (HMT.out _ (cur_step1 HB7.out (Wd.h _).1)).mono ?_; rintro e w8 ⟨rfl, hb8⟩; exact ⟨rfl, ⟨w8, (Wd.h _).to hb8⟩, rfl⟩)))
                      refine wpQuiet_nil ?_
                      rintro w8 ⟨s8, hs8⟩
                      have HB78 := Lib.hid (show Below w7.heap.size w7 w8 by rw [hs8]; exact s8.h.1)
                      clear hs8 s8 k0 k1 k2 k3 k4 k5 k6 k7 k8 k9 hex hne K3 CS
                      go_wp2_with fail
                      go_ret
                      exact ⟨ret_int HE.out, cur_step1 HBF.out HB78.out⟩
                    · have H13 := Lib.hid (show ¬ (!mayAt U (fnd U zo) ⟨xm, xd', xh, xa⟩ || !mayAt U (fnd U zt) ⟨xm, xd', xh, xa⟩) = true by rw [HMV.out.1, HMV.out.2]; decide)
                      refine wp_region_wd w7 CS (by kernel_rfl) (by kernel_rfl) K3.out.drew ?_
                      iterate 9 (go_big_quiet_step ((go_at_call 12; refine (HMO.out _ (cur_step1 HB7.out (Wd.h _).1)).mono ?_; rintro e w8 ⟨rfl, hb8⟩; exact ⟨rfl, ⟨w8, (Wd.h _).to hb8⟩, rfl⟩)))
                      repeat (go_big_quiet_step ((go_at_call 12; refine (HMT.out _ (cur_step1 HB7.out (Wd.h _).1)).mono ?_; rintro e w8 ⟨rfl, hb8⟩; exact ⟨rfl, ⟨w8, (Wd.h _).to hb8⟩, rfl⟩)))
                      refine wpQuiet_nil ?_
                      rintro w8 ⟨s8, hs8⟩
                      have HB78 := Lib.hid (show Below w7.heap.size w7 w8 by rw [hs8]; exact s8.h.1)
                      clear hs8 s8 k0 k1 k2 k3 k4 k5 k6 k7 k8 k9 hex hne K3 CS
                      have HS8 := Lib.hid (HS7.out.to HB78.out)
                      have HKA8 := Lib.hid (HKA.out.to HB78.out)
                      have HKB8 := Lib.hid (HKB.out.to HB78.out)
                      have HB8 := Lib.hid (cur_step1 HB7.out HB78.out)
                      have HBF8 := Lib.hid (cur_step1 HBF.out HB78.out)
                      have HWF := Lib.hid (show (Lit.int .i64 xd').wf = true by
                        have q1 := HXR.out.2.2
                        dsimp only at q1
                        simp [Lit.wf, IntKind.min, IntKind.max, IntKind.signed, IntKind.bits]
                        omega)
                      have HZ1 := Lib.hid (show zo.size ≤ maxLen from HZS.out.1)
                      have HZ2 := Lib.hid (show zt.size ≤ maxLen from HZS.out.2)
                      obtain ⟨t1, ht1⟩ : ∃ t, takB M L k xd' zo = t := ⟨_, rfl⟩
                      obtain ⟨t2, ht2⟩ : ∃ t, takB M L k xd' zt = t := ⟨_, rfl⟩
                      have hl1 := HS8.out.look (d := xd') (s := zo) HWF.out HZ1.out
                      have hl2 := HS8.out.look (d := xd') (s := zt) HWF.out HZ2.out
                      rw [ht1] at hl1
                      rw [ht2] at hl2
                      unfold stV at hl1 hl2
                      have HTK := Lib.hid (⟨ht1, ht2⟩ : takB M L k xd' zo = t1 ∧ takB M L k xd' zt = t2)
                      have a0 : w8.cell? ⟨ga, 0, none⟩ = some (.int .i64 xd') := HKA8.out.cell 0
                      have a3 : w8.cell? ⟨ga, 1, none⟩ = some (.string zo) := HKA8.out.cell 1
                      have b0 : w8.cell? ⟨gb, 0, none⟩ = some (.int .i64 xd') := HKB8.out.cell 0
                      have b3 : w8.cell? ⟨gb, 1, none⟩ = some (.string zt) := HKB8.out.cell 1
                      clear ht1 ht2 a1 a2 HMO HMT HCS l5 l8 i1 i2 i3 i4 i5 i6 HS7 HKA HKB HB7 HBF HK7
                      cases t1
                      · cases t2
                        · have HAZ := Lib.hid (show acN M U L k = 0 by rw [HAC.out]; unfold acE; rw [if_neg HN6.out, if_neg H8.out, if_neg H13.out, if_neg (by rw [HTK.out.1, HTK.out.2]; decide)])
                          go_wp2_with fail
                          clear a0 a3 b0 b3 hl1 hl2
                          have HGA := Lib.hid (HS8.out.ne HKA8.out)
                          have HGB := Lib.hid (HS8.out.ne HKB8.out)
                          refine wp_region_held_drew (S := fun w' => Blk w' ga 84 [.int .i64 xd', .string zo] ∧ Blk w' gb 84 [.int .i64 xd', .string zt]) (by kernel_rfl) ⟨HKA8.out, HKB8.out⟩ (fun hS => ?_)
                          obtain ⟨w9, hw9⟩ : ∃ W, w8.drew = W := ⟨_, rfl⟩
                          have HS9 := Lib.hid (show StM w9 bm (2 * k) (takB M L k) by rw [← hw9]; exact HS8.out.to (cur_drew w8 1))
                          have HB9 := Lib.hid (show Below w1.heap.size w1 w9 by rw [← hw9]; exact HB8.out.drew)
                          rw [hw9] at hS ⊢
                          clear hw9
                          refine wpAnyH_take (i := 0) (v := ?_) rfl (by kernel_rfl) (by kernel_rfl) (by kernel_rfl) (fun _ _ _ h => h) (Or.inl ⟨by rfl, ?_⟩) hS ?_
                          rotate_left
                          · intro w' _
                            go_simp
                            try with_reducible rfl
                          try simp only [Act.put, List.setIfInBounds_toArray, List.set_cons_zero, List.set_cons_succ]
                          refine wpAnyH_take (i := 1) (v := .agg #[.int .i64 xd', .string zo]) rfl (by kernel_rfl) (by kernel_rfl) (by kernel_rfl) (fun _ _ _ h => h) (Or.inl ⟨by rfl, ?_⟩) hS ?_
                          · intro w' hw'
                            have y0 : w'.cell? ⟨ga, 0, none⟩ = some (.int .i64 xd') := hw'.1.cell 0
                            have y1 : w'.cell? ⟨ga, 1, none⟩ = some (.string zo) := hw'.1.cell 1
                            go_simp
                          try simp only [Act.put, List.setIfInBounds_toArray, List.set_cons_zero, List.set_cons_succ]
                          refine wpAnyH_take (i := 2) (v := ?_) rfl (by kernel_rfl) (by kernel_rfl) (by kernel_rfl) (fun _ _ _ h => h) (Or.inl ⟨by rfl, ?_⟩) hS ?_
                          rotate_left
                          · intro w' _
                            go_simp
                            try with_reducible rfl
                          try simp only [Act.put, List.setIfInBounds_toArray, List.set_cons_zero, List.set_cons_succ]
                          refine wpAnyH_take (i := 3) (v := .agg #[.int .i64 xd', .string zt]) rfl (by kernel_rfl) (by kernel_rfl) (by kernel_rfl) (fun _ _ _ h => h) (Or.inl ⟨by rfl, ?_⟩) hS ?_
                          · intro w' hw'
                            have y0 : w'.cell? ⟨gb, 0, none⟩ = some (.int .i64 xd') := hw'.2.cell 0
                            have y1 : w'.cell? ⟨gb, 1, none⟩ = some (.string zt) := hw'.2.cell 1
                            go_simp
                          try simp only [Act.put, List.setIfInBounds_toArray, List.set_cons_zero, List.set_cons_succ]
                          have hkz : 2 * k < maxLen := by unfold maxLen; omega
                          have hkz2 : 2 * k + 1 < maxLen := by unfold maxLen; omega
                          refine wpAnyH_ready (rs := [4]) (by kernel_rfl) (by simp) ?_
                          refine AllReadyH.cons rfl (fun K' hK => ?_) AllReadyH.nil
                          refine step_stand w9 rfl (.tmp 102) (.tmp 103) (.const (.bool true)) rfl bm (2 * k) (takB M L k) xd' zo (by rfl) (by rfl) (by rfl) HS9.out hkz HWF.out HZ1.out ?_
                          intro wa hsa hga
                          have HFA := Lib.hid (show Far [bm] w9 wa from Far.grown hga (fun b hb => by injection hb with hb; simp [hb]))
                          have HSA := Lib.hid hsa
                          refine hK.out _ _ ⟨hS.1.far HFA.out (by simpa using HGA.out), hS.2.far HFA.out (by simpa using HGB.out)⟩ (fun hS => ?_)
                          clear hK K' hsa hga
                          refine wpAnyH_ready (rs := [5]) (by kernel_rfl) (by simp) ?_
                          refine AllReadyH.cons rfl (fun K' hK => ?_) AllReadyH.nil
                          refine step_stand wa rfl (.tmp 104) (.tmp 105) (.const (.bool true)) rfl bm (2 * k + 1) _ xd' zt (by rfl) (by rfl) (by rfl) HSA.out hkz2 HWF.out HZ2.out ?_
                          intro wb hsb hgb
                          have HFB := Lib.hid (show Far [bm] wa wb from Far.grown hgb (fun b hb => by injection hb with hb; simp [hb]))
                          have HSB := Lib.hid (show StM wb bm (2 * (k + 1)) (takB M L (k + 1)) from stm_tak (x := ⟨xm, xd', xh, xa⟩) (z := ⟨zm, zo, zt⟩) HX.out HZ.out hsb)
                          refine hK.out _ _ ⟨hS.1.far HFB.out (by simpa using HGA.out), hS.2.far HFB.out (by simpa using HGB.out)⟩ (fun _ => ?_)
                          clear hK K' hsb hgb hS
                          have HBZ := Lib.hid (show Below w1.heap.size w1 wb from (HB9.out.trans (HFA.out.below HB9.out.size (fun y hy => by simp at hy; rw [hy]; exact HBM.out))).trans (HFB.out.below (Nat.le_trans HB9.out.size HFA.out.size) (fun y hy => by simp at hy; rw [hy]; exact HBM.out)))
                          have HNX := Lib.hid (show ∀ q, q < k + 1 → acN M U L q = 0 from fun q hq => by
                            by_cases e : q = k
                            · rw [e]; exact HAZ.out
                            · exact HNO.out q (by omega))
                          refine wpAnyH_done (by kernel_rfl) ?_ _
                          try simp only [Act.put, List.setIfInBounds_toArray, List.set_cons_zero, List.set_cons_succ]
                          rw [← HBE.out]
                          go_wp2_with fail
                          first
                          | (go_roundw
                             case rel => exact ⟨k + 1, hkl, by simp, HSB.out, HNX.out, HBZ.out⟩
                             case measure => simp [intOf]; omega)
                          | exact ⟨⟨k + 1, hkl, by simp, HSB.out, HNX.out, HBZ.out⟩, by simp [intOf]; omega⟩
                        · have HE := Lib.hid (FIN.out 7 (by unfold acE; rw [if_neg HN6.out, if_neg H8.out, if_neg H13.out, if_pos (by rw [HTK.out.1, HTK.out.2]; rfl)]) (by decide))
                          go_wp2_with fail
                          go_ret
                          exact ⟨ret_int HE.out, HBF8.out⟩
                      · have HE := Lib.hid (FIN.out 7 (by unfold acE; rw [if_neg HN6.out, if_neg H8.out, if_neg H13.out, if_pos (by rw [HTK.out.1]; rfl)]) (by decide))
                        go_wp2_with fail
                        go_ret
                        exact ⟨ret_int HE.out, HBF8.out⟩
        · have HE := Lib.hid (show 0 = r from ac_end (fun j hj => HNO.out j (by omega)) HV2.out)
          have HBF := Lib.hid (cur_step1 HB1.out HB.out)
          go_wp2_with fail
          go_ret
          exact ⟨ret_int HE.out, HBF.out⟩
  · have HE := Lib.hid (show q = r by rw [← HV.out, thenR_ne hq0])
    go_wp2_with fail
    go_ret
    exact ⟨ret_int HE.out, HB1.out⟩
end Go.Proofs.Ytckbhdokfkabfaa
