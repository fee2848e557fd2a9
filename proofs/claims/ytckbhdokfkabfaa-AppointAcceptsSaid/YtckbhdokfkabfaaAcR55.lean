/-
  Chapter 55: the reference's Accept.
-/
import Derived.Test.YtckbhdokfkabfaaAcp55
set_option linter.unusedSimpArgs false
set_option linter.unusedVariables false
namespace Go.Proofs.Ytckbhdokfkabfaa
open Go.RowKit
set_option maxRecDepth 100000
set_option maxHeartbeats 8000000
theorem tak_hit {M : List Dty} {L : List Apd} {k p : Nat} {d : Int} {a b : ByteArray} (hp : p < k) (h : (stN M L d a p || stN M L d b p) = true) : (takB M L k d a || takB M L k d b) = true := by
  unfold takB
  rw [Bool.or_eq_true] at h ⊢
  rcases h with h | h
  · exact Or.inl (List.any_eq_true.2 ⟨p, List.mem_range.2 hp, h⟩)
  · exact Or.inr (List.any_eq_true.2 ⟨p, List.mem_range.2 hp, h⟩)
theorem tak_miss {M : List Dty} {L : List Apd} {k : Nat} {d : Int} {a b : ByteArray} (h : ∀ q, q < k → stN M L d a q = false ∧ stN M L d b q = false) : takB M L k d a = false ∧ takB M L k d b = false := by
  unfold takB
  constructor
  · exact List.any_eq_false.2 fun q hq => by rw [(h q (List.mem_range.1 hq)).1]; decide
  · exact List.any_eq_false.2 fun q hq => by rw [(h q (List.mem_range.1 hq)).2]; decide
theorem accept_r (A B C : Option Addr) (c d e : Nat) (M : List Dty) (U : List Ump) (L : List Apd) (r : Int) (w : World) (h : TaskR w A B M U) (hL : Rd apE 3 w w.heap.size C L) (hLl : L.length ≤ 1000) (hLe : L.length ≤ e) (hLs : ∀ z ∈ L, z.one.size ≤ 9223372036854775807 ∧ z.two.size ≤ 9223372036854775807) (hv : accF M U L = r) :
    Calls Try.prog 25 #[.slice A M.length c, .slice B U.length d, .slice C L.length e] w fun e w' => e = .returned (.int .i64 r) ∧ Below w.heap.size w w' := by
  obtain ⟨q, hq⟩ : ∃ q, ckA M U = q := ⟨_, rfl⟩
  have HV := Lib.hid (show thenR q (if eqM M L = false then 1 else acR M U L) = r by rw [← hq]; exact hv)
  have HC := Lib.hid (check_r A B c d M U q w h hq)
  have HT := Lib.hid h
  have HL := Lib.hid hL
  have HLS := Lib.hid hLs
  have hml := h.ml
  have hul := h.ul
  clear hq hv h hL hLs
  go_enter Try.func25, Try.ntmps25
  go_wp2_with fail
  refine HC.out.mono ?_
  rintro e w1 ⟨rfl, hb1⟩
  have HB1 := Lib.hid hb1
  clear hb1 HC
  by_cases hq0 : q = 0
  · subst hq0
    have HV0 := Lib.hid (show (if eqM M L = false then 1 else acR M U L) = r from HV.out)
    have HT1 := Lib.hid (HT.out.to HB1.out)
    have HL1 := Lib.hid (HL.out.to HB1.out)
    clear HV HT HL
    by_cases hlen : L.length = M.length
    · have HLEN := Lib.hid hlen
      obtain ⟨n, hn⟩ : ∃ n, M.length = n := ⟨_, rfl⟩
      have hLn : L.length = n := hlen.trans hn
      have HE1 := Lib.hid (show eqM M L = decide (resW (amN M L) (scan (amN M L) n) = 0) by unfold eqM; rw [decide_eq_true hlen.symm, Bool.true_and, hn])
      have hli : (n : Int) = (n : Int) := rfl
      rw [hn, hLn]
      clear hlen
      go_wp2_with fail
      go_loopw [29] (fun iv wr => ∃ k : Nat, k ≤ n ∧ iv = .int .i64 k ∧ (∀ j, j < k → amN M L j = 0) ∧ Below w1.heap.size w1 wr) (fun i _ => n - (intOf i).toNat)
      case atStart => exact ⟨0, by omega, rfl, fun j h => by omega, Below.refl _ _⟩
      case round =>
        obtain ⟨k, hk, rfl, hno, hb⟩ := hrel
        rename World => wo
        have HNO := Lib.hid hno
        have HB := Lib.hid hb
        clear hno hb
        by_cases hkl : k < n
        · obtain ⟨z, hz⟩ : ∃ z, L[k]? = some z := ⟨_, List.getElem?_eq_getElem (by omega)⟩
          obtain ⟨x, hx⟩ : ∃ x, M[k]? = some x := ⟨_, List.getElem?_eq_getElem (by omega)⟩
          obtain ⟨b5, off5, hA, hb5, hcl5⟩ := HT1.out.m.at_ HB.out hx
          obtain ⟨b6, off6, hC, hb6, hcl6⟩ := HL1.out.at_ HB.out hz
          have HAM := Lib.hid (show amN M L k = if (x.m == z.m) = true then 0 else 1 by simp [amN, hx, hz])
          obtain ⟨d0, d1, d2⟩ := ap_cells hcl6
          obtain ⟨c0, -, -, -⟩ := dt_cells hcl5
          have l5 : b5 < wo.heap.size := Nat.lt_of_lt_of_le hb5 HB.out.size
          have l6 : b6 < wo.heap.size := Nat.lt_of_lt_of_le hb6 HB.out.size
          obtain ⟨xm, xd, xh, xa⟩ := x
          obtain ⟨zm, zo, zt⟩ := z
          dsimp only at c0 d0 d1 d2 HAM
          rw [hC, hA]
          have HCE := Lib.hid hC
          have HAE := Lib.hid hA
          clear hcl5 hcl6 hx hz hA hC hb5 hb6
          go_upto_region 9 with (fail)
          have h4 := cur_new wo (.cells #[.int .i64 zm, .string zo, .string zt] 43)
          have k4 := Blk.new wo 43 [.int .i64 zm, .string zo, .string zt]
          have c0 := (h4.cell (p := ⟨b5, off5 + k * 4, none⟩) l5).trans c0
          have l5 : b5 < (wo.alloc (.cells #[.int .i64 zm, .string zo, .string zt] 43)).heap.size := Nat.lt_of_lt_of_le l5 h4.size
          generalize wo.alloc (.cells #[.int .i64 zm, .string zo, .string zt] 43) = w4 at h4 k4 c0 l5 ⊢
          obtain ⟨g4, hg4⟩ : ∃ g, wo.heap.size = g := ⟨_, rfl⟩
          rw [hg4] at k4 ⊢
          have HB4 := Lib.hid (cur_step1 HB.out h4)
          have a0 : w4.cell? ⟨g4, 0, none⟩ = some (.int .i64 zm) := k4.cell 0
          have l4 := k4.lt
          have i5 : (0 : Int) ≤ (k : Int) := by omega
          have i6 : (k : Int) < (n : Int) := by omega
          clear h4 k4 hg4 d0 d1 d2 l6 HB
          by_cases he : zm = xm
          · have HNX := Lib.hid (show ∀ j, j < k + 1 → amN M L j = 0 from fun j hj => by
              by_cases e : j = k
              · rw [e, HAM.out, he]; simp
              · exact HNO.out j (by omega))
            have hde : (zm != xm) = false := by simp [he]
            have HD := Lib.hid he
            clear he
            go_quiet (fail)
            go_wp2_with fail
            first
            | (go_roundw
               case rel => exact ⟨k + 1, hkl, by simp, HNX.out, below_drewN HB4.out _⟩
               case measure => simp [intOf]; omega)
            | exact ⟨⟨k + 1, hkl, by simp, HNX.out, below_drewN HB4.out _⟩, by simp [intOf]; omega⟩
          · have HE := Lib.hid (show (1 : Int) = r by
              have hb : amN M L k = 1 := by rw [HAM.out, if_neg (by simpa using fun h => he h.symm)]
              have := HV0.out
              rw [HE1.out, res_of HNO.out hkl (by rw [hb]; decide), hb] at this
              exact this)
            have hde : (zm != xm) = true := by simp [he]
            have HD := Lib.hid he
            have HBF := Lib.hid (cur_step1 HB1.out HB4.out)
            clear he
            go_quiet (fail)
            go_wp2_with fail
            go_ret
            exact ⟨ret_int HE.out, below_drewN HBF.out _⟩
        · have HV2 := Lib.hid (show acR M U L = r by
            have := HV0.out
            rw [HE1.out, res_end (fun j hj => HNO.out j (by omega))] at this
            exact this)
          clear HV0
          go_wp2_with fail
          go_loopw [45] (fun iv wr => ∃ k : Nat, k ≤ L.length ∧ iv = .int .i64 k ∧ (∀ j, j < k → acN M U L j = 0) ∧ Below w1.heap.size w1 wr) (fun i _ => L.length - (intOf i).toNat)
          case atStart => exact ⟨0, by omega, rfl, fun j h => by omega, HB.out⟩
          case round =>
            clear HB HNO
            clear hk hkl
            obtain ⟨k, hk, rfl, hno, hb⟩ := hrel
            rename World => wq
            have HNO := Lib.hid hno
            have HB := Lib.hid hb
            clear hno hb
            by_cases hkl : k < L.length
            · obtain ⟨z, hz⟩ : ∃ z, L[k]? = some z := ⟨_, List.getElem?_eq_getElem hkl⟩
              have hkm : k < M.length := by omega
              obtain ⟨x, hx⟩ : ∃ x, M[k]? = some x := ⟨_, List.getElem?_eq_getElem hkm⟩
              have HX := Lib.hid hx
              have HZ := Lib.hid hz
              have HZS := Lib.hid (HLS.out z (List.mem_of_getElem? hz))
              skip
              have HAC := Lib.hid (acN_at (U := U) hx hz)
              obtain ⟨b5, off5, hA, hb5, hcl5⟩ := HT1.out.m.at_ HB.out hx
              obtain ⟨b6, off6, hC, hb6, hcl6⟩ := HL1.out.at_ HB.out hz
              have HM5 := Lib.hid (show ∀ w', Below w1.heap.size w1 w' → (w'.cell? ⟨b5, off5 + k * 4, none⟩ = some (.int .i64 x.m) ∧ w'.cell? ⟨b5, off5 + k * 4 + 1, none⟩ = some (.int .i64 x.d) ∧ w'.cell? ⟨b5, off5 + k * 4 + 2, none⟩ = some (.string x.h) ∧ w'.cell? ⟨b5, off5 + k * 4 + 3, none⟩ = some (.string x.a)) ∧ b5 < w'.heap.size from fun w' hb => by
                obtain ⟨b5', off5', hA', hb5', hcl5'⟩ := HT1.out.m.at_ hb hx
                rw [hA] at hA'
                injection hA' with hA'
                injection hA' with e1 e2 _
                subst e1 e2
                exact ⟨dt_cells hcl5', Nat.lt_of_lt_of_le hb5' hb.size⟩)
              have HFO := Lib.hid (fun w' (hb : Below w1.heap.size w1 w') => find_r B d U z.one _ w' (by omega) (HT1.out.to hb).u.rd rfl)
              have HFT := Lib.hid (fun w' (hb : Below w1.heap.size w1 w') => find_r B d U z.two _ w' (by omega) (HT1.out.to hb).u.rd rfl)
              obtain ⟨fo, hfo⟩ : ∃ f, fnd U z.one = f := ⟨_, rfl⟩
              obtain ⟨ft, hft⟩ : ∃ f, fnd U z.two = f := ⟨_, rfl⟩
              rw [hfo] at HFO
              rw [hft] at HFT
              have HFE := Lib.hid (⟨hfo, hft⟩ : fnd U z.one = fo ∧ fnd U z.two = ft)
              obtain ⟨d0, d1, d2⟩ := ap_cells hcl6
              have hbw6 : b6 < wq.heap.size := Nat.lt_of_lt_of_le hb6 HB.out.size
              obtain ⟨zm, zo, zt⟩ := z
              dsimp only at d0 d1 d2 HFO HFT HZS
              rw [hC, hA]
              have HCE := Lib.hid hC
              have HAE := Lib.hid hA
              clear hcl5 hcl6 hx hz hfo hft hb5 hb6 hC hA
              go_upto_region 15 with (fail)
              have h4 := cur_new wq (.cells #[.int .i64 zm, .string zo, .string zt] 43)
              have k4 := Blk.new wq 43 [.int .i64 zm, .string zo, .string zt]
              generalize wq.alloc (.cells #[.int .i64 zm, .string zo, .string zt] 43) = w4 at h4 k4 ⊢
              obtain ⟨g4, hg4⟩ : ∃ g, wq.heap.size = g := ⟨_, rfl⟩
              rw [hg4] at k4 ⊢
              have HB4 := Lib.hid (cur_step1 HB.out h4)
              have HK4 := Lib.hid k4
              have a0 : w4.cell? ⟨g4, 0, none⟩ = some (.int .i64 zm) := k4.cell 0
              have a1 : w4.cell? ⟨g4, 1, none⟩ = some (.string zo) := k4.cell 1
              have a2 : w4.cell? ⟨g4, 2, none⟩ = some (.string zt) := k4.cell 2
              have l4 := k4.lt
              clear h4 k4 hg4 d0 d1 d2 hbw6 HB
              go_region_held3 (fun w' => w'.cell? ⟨g4, 0, none⟩ = some (.int .i64 zm) ∧ w'.cell? ⟨g4, 1, none⟩ = some (.string zo) ∧ w'.cell? ⟨g4, 2, none⟩ = some (.string zt))
                (first
                  | (go_keep; done)
                  | exact ⟨HK5.out.cell 0, HK5.out.cell 1, HK5.out.cell 2⟩
                  | exact ⟨HK6.out.cell 0, HK6.out.cell 1, HK6.out.cell 2⟩)
                ((first
                  | (go_at_call 49; refine (HFO.out _ HB4.out.drew).mono ?_; rintro e w5 ⟨rfl, hb5⟩; have HB5 := Lib.hid (cur_step1 HB4.out.drew hb5); have HK5 := Lib.hid (Blk.to (w := w4.drew) HK4.out hb5); clear hb5; clear HFO)
                  | (go_at_call 49; refine (HFT.out w5 HB5.out).mono ?_; rintro e w6 ⟨rfl, hb6⟩; have HB6 := Lib.hid (cur_step1 HB5.out hb6); have HK6 := Lib.hid (HK5.out.to hb6); clear hb6)))
              have HBF := Lib.hid (cur_step1 HB1.out HB6.out)
              obtain ⟨xd, hxdd⟩ : ∃ xd, x.d = xd := ⟨_, rfl⟩
              have a1 : w6.cell? ⟨g4, 1, none⟩ = some (.string zo) := HK6.out.cell 1
              have a2 : w6.cell? ⟨g4, 2, none⟩ = some (.string zt) := HK6.out.cell 2
              have es := slt_to zo zt
              have FIN := Lib.hid (show ∀ q : Int, acE M U L k x ⟨zm, zo, zt⟩ = q → q ≠ 0 → q = r from fun q h1 h2 => by
                rw [← h1, ← HAC.out]
                exact ac_of HNO.out hkl (by rw [HAC.out, h1]; exact h2) HV2.out)
              by_cases h1 : fo < 0
              · have HE := Lib.hid (FIN.out 6 (by unfold acE; rw [HFE.out.1, decide_eq_true h1]; rfl) (by decide))
                go_wp2_with fail
                go_ret
                exact ⟨ret_int HE.out, HBF.out⟩
              · by_cases h2 : ft < 0
                · have HE := Lib.hid (FIN.out 6 (by unfold acE; rw [HFE.out.1, HFE.out.2, decide_eq_true h2, Bool.or_true]; rfl) (by decide))
                  go_wp2_with fail
                  go_ret
                  exact ⟨ret_int HE.out, HBF.out⟩
                · have HN6 := Lib.hid (show ¬ (decide (fnd U zo < 0) || decide (fnd U zt < 0)) = true by rw [HFE.out.1, HFE.out.2, decide_eq_false h1, decide_eq_false h2]; decide)
                  cases h3 : slt zo zt
                  · rw [h3] at es
                    have HE := Lib.hid (FIN.out 8 (by unfold acE; rw [if_neg HN6.out, if_pos h3]) (by decide))
                    go_wp2_with fail
                    go_ret
                    exact ⟨ret_int HE.out, HBF.out⟩
                  · rw [h3] at es
                    obtain ⟨i, yo, hi, hyo, -⟩ := fnd_at (U := U) (s := zo) (by rw [HFE.out.1]; exact h1)
                    obtain ⟨j, yt, hj, hyt, -⟩ := fnd_at (U := U) (s := zt) (by rw [HFE.out.2]; exact h2)
                    rw [HFE.out.1] at hi
                    rw [HFE.out.2] at hj
                    subst hi
                    subst hj
                    have hil : i < U.length := (List.getElem?_eq_some_iff.1 hyo).1
                    have hjl : j < U.length := (List.getElem?_eq_some_iff.1 hyt).1
                    obtain ⟨v1, hv1⟩ : ∃ v, mayB x yo = v := ⟨_, rfl⟩
                    obtain ⟨v2, hv2⟩ : ∃ v, mayB x yt = v := ⟨_, rfl⟩
                    have H8 := Lib.hid (show ¬ slt zo zt = false by rw [h3]; decide)
                    have HMV := Lib.hid (show mayAt U (fnd U zo) x = v1 ∧ mayAt U (fnd U zt) x = v2 by rw [HFE.out.1, HFE.out.2, may_of hyo, may_of hyt]; exact ⟨hv1, hv2⟩)
                    have HMO := Lib.hid (fun w' (hb : Below w1.heap.size w1 w') => may_r x yo v1 w' (HT1.out.us yo (List.mem_of_getElem? hyo)).2.2 ((HT1.out.to hb).u.ds yo (List.mem_of_getElem? hyo)) hv1)
                    have HMT := Lib.hid (fun w' (hb : Below w1.heap.size w1 w') => may_r x yt v2 w' (HT1.out.us yt (List.mem_of_getElem? hyt)).2.2 ((HT1.out.to hb).u.ds yt (List.mem_of_getElem? hyt)) hv2)
                    obtain ⟨b8, off8, hB8, hb8, hcl8⟩ := HT1.out.u.rd.at_ (Below.refl _ _) hyo
                    obtain ⟨b9, off9, hB9, hb9, hcl9⟩ := HT1.out.u.rd.at_ (Below.refl _ _) hyt
                    rw [hB8] at hB9
                    injection hB9 with hB9
                    injection hB9 with e7 e8 _
                    subst e7 e8
                    obtain ⟨⟨c0, c1, c2, c3⟩, c5⟩ := HM5.out w1 (Below.refl _ _)
                    obtain ⟨u0, u1, u2⟩ := um_cells hcl8
                    obtain ⟨t0, t1, t2⟩ := um_cells hcl9
                    obtain ⟨xm, xd', xh, xa⟩ := x
                    obtain ⟨on, om, os, oA, oc⟩ := yo
                    obtain ⟨tn, tm, ts, tA, tc⟩ := yt
                    dsimp only at c0 c1 c2 c3 u0 u1 u2 t0 t1 t2
                    have hxd' : xd' = xd := hxdd
                    subst hxd'
                    simp only [dtE, umE] at HMO HMT
                    obtain ⟨ol, hol⟩ : ∃ q, os.length = q := ⟨_, rfl⟩
                    obtain ⟨tl, htl⟩ : ∃ q, ts.length = q := ⟨_, rfl⟩
                    rw [hol] at u2
                    rw [htl] at t2
                    simp only [hol] at HMO
                    simp only [htl] at HMT
                    have HCS := Lib.hid (show ∀ w', Below w1.heap.size w1 w' → w'.cell? ⟨b5, off5 + k * 4, none⟩ = some (.int .i64 xm) ∧ w'.cell? ⟨b5, off5 + k * 4 + 1, none⟩ = some (.int .i64 xd') ∧ w'.cell? ⟨b5, off5 + k * 4 + 2, none⟩ = some (.string xh) ∧ w'.cell? ⟨b5, off5 + k * 4 + 3, none⟩ = some (.string xa) ∧ w'.cell? ⟨b8, off8 + i * 3, none⟩ = some (.string on) ∧ w'.cell? ⟨b8, off8 + i * 3 + 1, none⟩ = some (.string om) ∧ w'.cell? ⟨b8, off8 + i * 3 + 2, none⟩ = some (.slice oA ol oc) ∧ w'.cell? ⟨b8, off8 + j * 3, none⟩ = some (.string tn) ∧ w'.cell? ⟨b8, off8 + j * 3 + 1, none⟩ = some (.string tm) ∧ w'.cell? ⟨b8, off8 + j * 3 + 2, none⟩ = some (.slice tA tl tc) from fun w' hb => ⟨(hb.cell c5).trans c0, (hb.cell c5).trans c1, (hb.cell c5).trans c2, (hb.cell c5).trans c3, (hb.cell hb8).trans u0, (hb.cell hb8).trans u1, (hb.cell hb8).trans u2, (hb.cell hb8).trans t0, (hb.cell hb8).trans t1, (hb.cell hb8).trans t2⟩)
                    have l5 : b5 < w6.heap.size := (HM5.out w6 HB6.out).2
                    have l8 : b8 < w6.heap.size := Nat.lt_of_lt_of_le hb8 HB6.out.size
                    have i1 : (0 : Int) ≤ (i : Int) := by omega
                    have i2 : (i : Int) < (U.length : Int) := by omega
                    have i3 : (0 : Int) ≤ (j : Int) := by omega
                    have i4 : (j : Int) < (U.length : Int) := by omega
                    have i5 : (0 : Int) ≤ (k : Int) := by omega
                    have i6 : (k : Int) < (M.length : Int) := by omega
                    have HBE := Lib.hid hB8
                    rw [hB8]
                    clear hyo hyt hv1 hv2 hcl8 hcl9 c0 c1 c2 c3 c5 u0 u1 u2 t0 t1 t2 hol htl hB8 hb8 hb9 HM5
                    go_upto_region 20 with (fail)
                    obtain ⟨q0, q1, q2, q3, q4, q5, q6, q7, q8, q9⟩ := HCS.out w6 HB6.out
                    obtain ⟨CS, hCS⟩ : ∃ CS : List (Nat × Nat × Value), CS = [(b5, off5 + k * 4, .int .i64 xm), (b5, off5 + k * 4 + 1, .int .i64 xd'), (b5, off5 + k * 4 + 2, .string xh), (b5, off5 + k * 4 + 3, .string xa), (b8, off8 + i * 3, .string on), (b8, off8 + i * 3 + 1, .string om), (b8, off8 + i * 3 + 2, .slice oA ol oc), (b8, off8 + j * 3, .string tn), (b8, off8 + j * 3 + 1, .string tm), (b8, off8 + j * 3 + 2, .slice tA tl tc)] := ⟨_, rfl⟩
                    have K3 := Lib.hid (show Keep w6 w6 CS by
                      rw [hCS]
                      refine ⟨Below.refl _ _, ?_⟩
                      intro c hc
                      simp only [List.mem_cons, List.mem_nil_iff, or_false] at hc
                      rcases hc with rfl | rfl | rfl | rfl | rfl | rfl | rfl | rfl | rfl | rfl <;> exact ⟨by assumption, by assumption⟩)
                    have k0 : ∀ s : Wd w6 CS, s.w.cell? ⟨b5, off5 + k * 4, none⟩ = some (.int .i64 xm) := fun s => s.h.get (by simp [hCS])
                    have k1 : ∀ s : Wd w6 CS, s.w.cell? ⟨b5, off5 + k * 4 + 1, none⟩ = some (.int .i64 xd') := fun s => s.h.get (by simp [hCS])
                    have k2 : ∀ s : Wd w6 CS, s.w.cell? ⟨b5, off5 + k * 4 + 2, none⟩ = some (.string xh) := fun s => s.h.get (by simp [hCS])
                    have k3 : ∀ s : Wd w6 CS, s.w.cell? ⟨b5, off5 + k * 4 + 3, none⟩ = some (.string xa) := fun s => s.h.get (by simp [hCS])
                    have k4 : ∀ s : Wd w6 CS, s.w.cell? ⟨b8, off8 + i * 3, none⟩ = some (.string on) := fun s => s.h.get (by simp [hCS])
                    have k5 : ∀ s : Wd w6 CS, s.w.cell? ⟨b8, off8 + i * 3 + 1, none⟩ = some (.string om) := fun s => s.h.get (by simp [hCS])
                    have k6 : ∀ s : Wd w6 CS, s.w.cell? ⟨b8, off8 + i * 3 + 2, none⟩ = some (.slice oA ol oc) := fun s => s.h.get (by simp [hCS])
                    have k7 : ∀ s : Wd w6 CS, s.w.cell? ⟨b8, off8 + j * 3, none⟩ = some (.string tn) := fun s => s.h.get (by simp [hCS])
                    have k8 : ∀ s : Wd w6 CS, s.w.cell? ⟨b8, off8 + j * 3 + 1, none⟩ = some (.string tm) := fun s => s.h.get (by simp [hCS])
                    have k9 : ∀ s : Wd w6 CS, s.w.cell? ⟨b8, off8 + j * 3 + 2, none⟩ = some (.slice tA tl tc) := fun s => s.h.get (by simp [hCS])
                    have hex : ∀ s : Wd w6 CS, ∃ s' : Wd w6 CS, s.w = s'.w := fun s => ⟨s, rfl⟩
                    haveI hne : Nonempty (Wd w6 CS) := ⟨⟨_, K3.out⟩⟩
                    clear hCS q0 q1 q2 q3 q4 q5 q6 q7 q8 q9 es h1 h2 h3
                    cases v1
                    · have HE := Lib.hid (FIN.out 13 (by unfold acE; rw [if_neg HN6.out, if_neg H8.out, if_pos (by rw [HMV.out.1, HMV.out.2]; rfl)]) (by decide))
                      refine wp_region_wd w6 CS (by kernel_rfl) (by kernel_rfl) K3.out.drew ?_
                      iterate 9 (go_big_quiet_step ((go_at_call 13; refine (HMO.out _ (cur_step1 HB6.out (Wd.h _).1)).mono ?_; rintro e w8 ⟨rfl, hb8⟩; exact ⟨rfl, ⟨w8, (Wd.h _).to hb8⟩, rfl⟩)))
                      repeat (go_big_quiet_step ((go_at_call 13; refine (HMT.out _ (cur_step1 HB6.out (Wd.h _).1)).mono ?_; rintro e w8 ⟨rfl, hb8⟩; exact ⟨rfl, ⟨w8, (Wd.h _).to hb8⟩, rfl⟩)))
                      refine wpQuiet_nil ?_
                      rintro w8 ⟨s8, hs8⟩
                      have HB68 := Lib.hid (show Below w6.heap.size w6 w8 by rw [hs8]; exact s8.h.1)
                      clear hs8 s8 k0 k1 k2 k3 k4 k5 k6 k7 k8 k9 hex hne K3 CS
                      go_wp2_with fail
                      go_ret
                      exact ⟨ret_int HE.out, cur_step1 HBF.out HB68.out⟩
                    · cases v2
                      · have HE := Lib.hid (FIN.out 13 (by unfold acE; rw [if_neg HN6.out, if_neg H8.out, if_pos (by rw [HMV.out.1, HMV.out.2]; rfl)]) (by decide))
                        refine wp_region_wd w6 CS (by kernel_rfl) (by kernel_rfl) K3.out.drew ?_
                        iterate 9 (go_big_quiet_step ((go_at_call 13; refine (HMO.out _ (cur_step1 HB6.out (Wd.h _).1)).mono ?_; rintro e w8 ⟨rfl, hb8⟩; exact ⟨rfl, ⟨w8, (Wd.h _).to hb8⟩, rfl⟩)))
                        repeat (go_big_quiet_step ((go_at_call 13; refine (HMT.out _ (cur_step1 HB6.out (Wd.h _).1)).mono ?_; rintro e w8 ⟨rfl, hb8⟩; exact ⟨rfl, ⟨w8, (Wd.h _).to hb8⟩, rfl⟩)))
                        refine wpQuiet_nil ?_
                        rintro w8 ⟨s8, hs8⟩
                        have HB68 := Lib.hid (show Below w6.heap.size w6 w8 by rw [hs8]; exact s8.h.1)
                        clear hs8 s8 k0 k1 k2 k3 k4 k5 k6 k7 k8 k9 hex hne K3 CS
                        go_wp2_with fail
                        go_ret
                        exact ⟨ret_int HE.out, cur_step1 HBF.out HB68.out⟩
                      · have H13 := Lib.hid (show ¬ (!mayAt U (fnd U zo) ⟨xm, xd', xh, xa⟩ || !mayAt U (fnd U zt) ⟨xm, xd', xh, xa⟩) = true by rw [HMV.out.1, HMV.out.2]; decide)
                        refine wp_region_wd w6 CS (by kernel_rfl) (by kernel_rfl) K3.out.drew ?_
                        iterate 9 (go_big_quiet_step ((go_at_call 13; refine (HMO.out _ (cur_step1 HB6.out (Wd.h _).1)).mono ?_; rintro e w8 ⟨rfl, hb8⟩; exact ⟨rfl, ⟨w8, (Wd.h _).to hb8⟩, rfl⟩)))
                        repeat (go_big_quiet_step ((go_at_call 13; refine (HMT.out _ (cur_step1 HB6.out (Wd.h _).1)).mono ?_; rintro e w8 ⟨rfl, hb8⟩; exact ⟨rfl, ⟨w8, (Wd.h _).to hb8⟩, rfl⟩)))
                        refine wpQuiet_nil ?_
                        rintro w8 ⟨s8, hs8⟩
                        have HB68 := Lib.hid (show Below w6.heap.size w6 w8 by rw [hs8]; exact s8.h.1)
                        clear hs8 s8 k0 k1 k2 k3 k4 k5 k6 k7 k8 k9 hex hne K3 CS
                        have HB8 := Lib.hid (cur_step1 HB6.out HB68.out)
                        have HK8 := Lib.hid (HK6.out.to HB68.out)
                        have HBF8 := Lib.hid (cur_step1 HBF.out HB68.out)
                        have hke : (k : Int) ≤ (e : Int) := by omega
                        have hke2 : ¬ (e : Int) < (k : Int) := by omega
                        have hk0 : (0 : Int) ≤ (k : Int) := by omega
                        clear HMO HMT HCS HK6 HB6 HBF
                        go_wp2_with fail
                        go_loopw [98] (fun iv wr => ∃ p : Nat, p ≤ k ∧ iv = .int .i64 p ∧ (∀ q, q < p → stN M L xd' zo q = false ∧ stN M L xd' zt q = false) ∧ Below w8.heap.size w8 wr) (fun i _ => k - (intOf i).toNat)
                        case atStart => exact ⟨0, by omega, rfl, fun q h => by omega, Below.refl _ _⟩
                        case round =>
                          obtain ⟨p, hp, rfl, hnp, hb⟩ := hrel
                          rename World => wr
                          have HNP := Lib.hid hnp
                          have HBR := Lib.hid hb
                          clear hnp hb
                          have HBX := Lib.hid (cur_step1 HBF8.out HBR.out)
                          have HR1 := Lib.hid (cur_step1 HB8.out HBR.out)
                          by_cases hpk : p < k
                          · obtain ⟨y, hy⟩ : ∃ y, L[p]? = some y := ⟨_, List.getElem?_eq_getElem (by omega)⟩
                            obtain ⟨v, hv⟩ : ∃ v, M[p]? = some v := ⟨_, List.getElem?_eq_getElem (by omega)⟩
                            obtain ⟨b6', off6', hC', hb6', hcl6'⟩ := HL1.out.at_ HR1.out hy
                            rw [HCE.out] at hC'
                            injection hC' with hC'
                            injection hC' with e1 e2 _
                            subst e1 e2
                            obtain ⟨b5', off5', hA', hb5', hcl5'⟩ := HT1.out.m.at_ HR1.out hv
                            rw [HAE.out] at hA'
                            injection hA' with hA'
                            injection hA' with e1 e2 _
                            subst e1 e2
                            obtain ⟨b5', off5', hA', hb5'', hclk⟩ := HT1.out.m.at_ HR1.out HX.out
                            rw [HAE.out] at hA'
                            injection hA' with hA'
                            injection hA' with e1 e2 _
                            subst e1 e2
                            obtain ⟨d0, d1, d2⟩ := ap_cells hcl6'
                            obtain ⟨-, c1, -, -⟩ := dt_cells hcl5'
                            obtain ⟨-, f1, -, -⟩ := dt_cells hclk
                            have l6 : b6 < wr.heap.size := Nat.lt_of_lt_of_le hb6' HR1.out.size
                            have l5 : b5 < wr.heap.size := Nat.lt_of_lt_of_le hb5' HR1.out.size
                            obtain ⟨ym, yo, yt⟩ := y
                            obtain ⟨vm, vd, vh, va⟩ := v
                            dsimp only at d0 d1 d2 c1 f1
                            have HST := Lib.hid (show ∀ s, stN M L xd' s p = (vd == xd' && (seq yo s || seq yt s)) from fun s => by unfold stN; rw [hv, hy])
                            clear hv hy hcl6' hcl5' hclk hb6' hb5' hb5''
                            have i7 : (0 : Int) ≤ (p : Int) := by omega
                            have i8 : (p : Int) < (n : Int) := by omega
                            have i9 : (k : Int) < (n : Int) := by omega
                            have i10 : (p : Int) < (k : Int) := by omega
                            go_upto_region 25 with (fail)
                            have h9 := cur_new wr (.cells #[.int .i64 ym, .string yo, .string yt] 43)
                            have k9 := Blk.new wr 43 [.int .i64 ym, .string yo, .string yt]
                            have c1 := (h9.cell (p := ⟨b5, off5 + p * 4 + 1, none⟩) l5).trans c1
                            have f1 := (h9.cell (p := ⟨b5, off5 + k * 4 + 1, none⟩) l5).trans f1
                            have k4 := (HK8.out.to HBR.out).to h9
                            have l5 : b5 < (wr.alloc (.cells #[.int .i64 ym, .string yo, .string yt] 43)).heap.size := Nat.lt_of_lt_of_le l5 h9.size
                            generalize wr.alloc (.cells #[.int .i64 ym, .string yo, .string yt] 43) = w9 at h9 k9 k4 c1 f1 l5 ⊢
                            obtain ⟨g9, hg9⟩ : ∃ g, wr.heap.size = g := ⟨_, rfl⟩
                            rw [hg9] at k9 ⊢
                            have HB9 := Lib.hid (cur_step1 HBX.out h9)
                            have HB9' := Lib.hid (cur_step1 HBR.out h9)
                            have a1 : w9.cell? ⟨g4, 1, none⟩ = some (.string zo) := k4.cell 1
                            have a2 : w9.cell? ⟨g4, 2, none⟩ = some (.string zt) := k4.cell 2
                            have y1 : w9.cell? ⟨g9, 1, none⟩ = some (.string yo) := k9.cell 1
                            have y2 : w9.cell? ⟨g9, 2, none⟩ = some (.string yt) := k9.cell 2
                            have l4 := k4.lt
                            have l9 := k9.lt
                            clear h9 k9 k4 hg9 d0 d1 d2 l6 HBR HBX HR1
                            have HHIT := Lib.hid (show (stN M L xd' zo p || stN M L xd' zt p) = true → 7 = r from fun h => FIN.out 7 (by unfold acE; rw [if_neg HN6.out, if_neg H8.out, if_neg H13.out, if_pos (tak_hit hpk h)]) (by decide))
                            have HMISS := Lib.hid (show (stN M L xd' zo p || stN M L xd' zt p) = false → ∀ q, q < p + 1 → stN M L xd' zo q = false ∧ stN M L xd' zt q = false from fun h q hq => by
                              by_cases e : q = p
                              · rw [e]; simpa using h
                              · exact HNP.out q (by omega))
                            have es1 := seq_to yo zo
                            have es2 := seq_to yo zt
                            have es3 := seq_to yt zo
                            have es4 := seq_to yt zt
                            by_cases hvd : vd = xd'
                            · subst hvd
                              cases s1 : seq yo zo
                              · cases s2 : seq yo zt
                                · cases s3 : seq yt zo
                                  · cases s4 : seq yt zt
                                    · rw [s1] at es1
                                      rw [s2] at es2
                                      rw [s3] at es3
                                      rw [s4] at es4
                                      have HNX := Lib.hid (HMISS.out (by rw [HST.out, HST.out, s1, s2, s3, s4]; simp))
                                      clear HMISS HHIT s1 s2 s3 s4
                                      go_quiet (fail)
                                      go_wp2_with fail
                                      first
                                      | (go_roundw
                                         case rel => exact ⟨p + 1, by omega, by simp, HNX.out, below_drewN HB9'.out _⟩
                                         case measure => simp [intOf]; omega)
                                      | exact ⟨⟨p + 1, by omega, by simp, HNX.out, below_drewN HB9'.out _⟩, by simp [intOf]; omega⟩
                                    · rw [s1] at es1
                                      rw [s2] at es2
                                      rw [s3] at es3
                                      rw [s4] at es4
                                      have HE := Lib.hid (HHIT.out (by rw [HST.out, HST.out, s1, s2, s3, s4]; simp))
                                      clear HMISS HHIT s1 s2 s3 s4
                                      go_quiet (fail)
                                      go_wp2_with fail
                                      go_ret
                                      exact ⟨ret_int HE.out, below_drewN HB9.out _⟩
                                  · rw [s1] at es1
                                    rw [s2] at es2
                                    rw [s3] at es3
                                    have HE := Lib.hid (HHIT.out (by rw [HST.out, HST.out, s1, s2, s3]; simp))
                                    clear HMISS HHIT s1 s2 s3 es4
                                    go_quiet (fail)
                                    go_wp2_with fail
                                    go_ret
                                    exact ⟨ret_int HE.out, below_drewN HB9.out _⟩
                                · rw [s1] at es1
                                  rw [s2] at es2
                                  have HE := Lib.hid (HHIT.out (by rw [HST.out, HST.out, s1, s2]; simp))
                                  clear HMISS HHIT s1 s2 es3 es4
                                  go_quiet (fail)
                                  go_wp2_with fail
                                  go_ret
                                  exact ⟨ret_int HE.out, below_drewN HB9.out _⟩
                              · rw [s1] at es1
                                have HE := Lib.hid (HHIT.out (by rw [HST.out, HST.out, s1]; simp))
                                clear HMISS HHIT s1 es2 es3 es4
                                go_quiet (fail)
                                go_wp2_with fail
                                go_ret
                                exact ⟨ret_int HE.out, below_drewN HB9.out _⟩
                            · have HNX := Lib.hid (HMISS.out (by rw [HST.out, HST.out, show (vd == xd') = false by simpa using hvd]; rfl))
                              clear HMISS HHIT es1 es2 es3 es4
                              go_quiet (fail)
                              go_wp2_with fail
                              first
                              | (go_roundw
                                 case rel => exact ⟨p + 1, by omega, by simp, HNX.out, below_drewN HB9'.out _⟩
                                 case measure => simp [intOf]; omega)
                              | exact ⟨⟨p + 1, by omega, by simp, HNX.out, below_drewN HB9'.out _⟩, by simp [intOf]; omega⟩
                          · have HTK := Lib.hid (show takB M L k xd' zo = false ∧ takB M L k xd' zt = false from tak_miss fun q hq => HNP.out q (by omega))
                            have HAZ := Lib.hid (show acN M U L k = 0 by
                              rw [HAC.out]
                              unfold acE
                              rw [if_neg HN6.out, if_neg H8.out, if_neg H13.out, if_neg (by rw [HTK.out.1, HTK.out.2]; decide)])
                            have HNX := Lib.hid (show ∀ q, q < k + 1 → acN M U L q = 0 from fun q hq => by
                              by_cases e : q = k
                              · rw [e]; exact HAZ.out
                              · exact HNO.out q (by omega))
                            rw [← HBE.out]
                            go_wp2_with fail
                            first
                            | (go_roundw
                               case rel => exact ⟨k + 1, by omega, by simp, HNX.out, HR1.out⟩
                               case measure => simp [intOf]; omega)
                            | exact ⟨⟨k + 1, by omega, by simp, HNX.out, HR1.out⟩, by simp [intOf]; omega⟩
            · have HE := Lib.hid (show 0 = r from ac_end (fun j hj => HNO.out j (by omega)) HV2.out)
              have HBF := Lib.hid (cur_step1 HB1.out HB.out)
              go_wp2_with fail
              go_ret
              exact ⟨ret_int HE.out, HBF.out⟩
    · have hli : ¬ (L.length : Int) = (M.length : Int) := by omega
      have HE := Lib.hid (show (1 : Int) = r by
        have := HV0.out
        rw [show eqM M L = false by unfold eqM; rw [decide_eq_false (fun h => hlen h.symm), Bool.false_and]] at this
        exact this)
      go_wp2_with fail
      go_ret
      exact ⟨ret_int HE.out, HB1.out⟩
  · have HE := Lib.hid (show q = r by rw [← HV.out, thenR_ne hq0])
    go_wp2_with fail
    go_ret
    exact ⟨ret_int HE.out, HB1.out⟩
end Go.Proofs.Ytckbhdokfkabfaa
