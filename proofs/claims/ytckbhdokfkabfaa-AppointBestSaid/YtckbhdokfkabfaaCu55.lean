/-
  Chapter 55: the first error of umpires: both sides.
-/
import Derived.Test.YtckbhdokfkabfaaCd55
set_option linter.unusedSimpArgs false
set_option linter.unusedVariables false
namespace Go.Proofs.Ytckbhdokfkabfaa
open Go.RowKit
set_option maxRecDepth 100000
set_option maxHeartbeats 4000000
theorem cu_p (A : Option Addr) (c : Nat) (U : List Ump) (r : Int) (w : World) (hl : U.length ≤ 1000) (hr : UmR w A U) (hsz : ∀ x ∈ U, UmS x) (hv : ckU U = r) :
    Calls Try.prog 28 #[.slice A U.length c] w fun e w' => e = .returned (.int .i64 r) ∧ Below w.heap.size w w' := by
  have HV := Lib.hid hv
  have HR := Lib.hid hr.rd
  have HRD := Lib.hid hr.ds
  have HSZ := Lib.hid hsz
  clear hr hv hsz
  go_enter Try.func28, Try.ntmps28
  go_wp2_with fail
  go_loopw [9] (fun i wr => ∃ k : Nat, k ≤ U.length ∧ i = .int .i64 k ∧ (∀ j, j < k → uErr U j = 0) ∧ Below w.heap.size w wr) (fun i _ => U.length - (intOf i).toNat)
  case atStart => exact ⟨0, by omega, rfl, by intro j h; omega, Below.refl _ _⟩
  case round =>
    obtain ⟨k, hk, rfl, hno, hB⟩ := hrel
    have HNO := Lib.hid hno
    have HB0 := Lib.hid hB
    clear hno hB
    by_cases hlt2 : k < U.length
    · obtain ⟨⟨xn, xt, xs, xA, xc⟩, hx⟩ : ∃ x, U[k]? = some x := ⟨_, List.getElem?_eq_getElem hlt2⟩
      obtain ⟨b, off, rfl, hbb, hcl⟩ := HR.out.at_ HB0.out hx
      obtain ⟨c0, c1, c2⟩ := um_cells hcl
      dsimp only at c0 c1 c2
      have HT := Lib.hid (show uErr U k = errU U k ⟨xn, xt, xs, xA, xc⟩ by simp [uErr, hx])
      have HS := Lib.hid (HSZ.out _ (List.mem_of_getElem? hx))
      have HDS := Lib.hid (show Rd iE 1 w w.heap.size xA xs from HRD.out _ (List.mem_of_getElem? hx))
      have hxl : xs.length ≤ 1000000 := HS.out.2.2
      have hbl : b < wr.heap.size := by have := HB0.out.size; omega
      clear hcl hx
      have FIN := Lib.hid (show ∀ q : Int, uErr U k = q → q ≠ 0 → q = r from fun q h1 h2 => by
        rw [← HV.out]; unfold ckU; rw [res_of HNO.out hlt2 (by rw [h1]; exact h2), h1])
      have NXT := Lib.hid (show uErr U k = 0 → ∀ j, j < k + 1 → uErr U j = 0 from fun h j hj => by
        by_cases e : j = k
        · rw [e]; exact h
        · exact HNO.out j (by omega))
      cases hn1 : nameB xn
      · have HE := Lib.hid (FIN.out 5 (by rw [HT.out]; simp only [errU, hn1]; rfl) (by decide))
        have HN1 := Lib.hid hn1
        clear hn1
        go_wp2_with fail
        obtain ⟨g, hg⟩ : ∃ g, g = wr.heap.size := ⟨_, rfl⟩
        have hbx := cur_new wr (.cells #[.string xn, .string xt, .slice xA xs.length xc] 32)
        have hbk := Blk.new wr 32 [.string xn, .string xt, .slice xA xs.length xc]
        generalize wr.alloc (Obj.cells #[.string xn, .string xt, .slice xA xs.length xc] 32) = wn at hbx hbk ⊢
        rw [← hg] at hbk ⊢
        have hgl := hbk.lt
        have HB := Lib.hid (cur_step1 HB0.out hbx)
        have HK := Lib.hid (show Keep w wn [(g, 0, .string xn), (g, 1, .string xt), (g, 2, .slice xA xs.length xc)] from ⟨HB.out, fun c hc => by simp at hc; rcases hc with rfl | rfl | rfl <;> exact ⟨hgl, hbk.cell _⟩⟩)
        have d0 : wn.cell? ⟨g, 0, none⟩ = some (.string xn) := HK.out.get (by simp)
        have d1 : wn.cell? ⟨g, 1, none⟩ = some (.string xt) := HK.out.get (by simp)
        have d2 : wn.cell? ⟨g, 2, none⟩ = some (.slice xA xs.length xc) := HK.out.get (by simp)
        have hgl := HK.out.lt (b := g) (o := 0) (v := .string xn) (by simp)
        have hgb : b < g := by rw [hg]; exact hbl
        clear hbx hbk hg c0 c1 c2
        go_wp2_with (first
          | (go_at_call 52; refine (name_p xn _ _ HS.out.1 HN1.out).mono ?_; rintro e wn ⟨rfl, hbn⟩; replace HB := Lib.hid (cur_step1 HB.out hbn); replace HK := Lib.hid (HK.out.to hbn); have d0 : wn.cell? ⟨g, 0, none⟩ = some (.string xn) := HK.out.get (by simp); have d1 : wn.cell? ⟨g, 1, none⟩ = some (.string xt) := HK.out.get (by simp); have d2 : wn.cell? ⟨g, 2, none⟩ = some (.slice xA xs.length xc) := HK.out.get (by simp); have hgl := HK.out.lt (b := g) (o := 0) (v := .string xn) (by simp); clear hbn; clear HN1)
          | (go_at_call 52; refine (name_p xt _ _ HS.out.2.1 HN2.out).mono ?_; rintro e wn ⟨rfl, hbn⟩; replace HB := Lib.hid (cur_step1 HB.out hbn); replace HK := Lib.hid (HK.out.to hbn); have d0 : wn.cell? ⟨g, 0, none⟩ = some (.string xn) := HK.out.get (by simp); have d1 : wn.cell? ⟨g, 1, none⟩ = some (.string xt) := HK.out.get (by simp); have d2 : wn.cell? ⟨g, 2, none⟩ = some (.slice xA xs.length xc) := HK.out.get (by simp); have hgl := HK.out.lt (b := g) (o := 0) (v := .string xn) (by simp); clear hbn; clear HN2))
        go_ret
        exact ⟨ret_int HE.out, HB.out⟩
      · cases he : isE xt
        · cases hn2 : nameB xt
          · have HE := Lib.hid (FIN.out 5 (by rw [HT.out]; simp only [errU, hn1, he, hn2]; rfl) (by decide))
            have HN1 := Lib.hid hn1
            have HN2 := Lib.hid hn2
            have es := isE_to xt
            rw [he] at es
            clear hn1 hn2 he
            go_wp2_with fail
            obtain ⟨g, hg⟩ : ∃ g, g = wr.heap.size := ⟨_, rfl⟩
            have hbx := cur_new wr (.cells #[.string xn, .string xt, .slice xA xs.length xc] 32)
            have hbk := Blk.new wr 32 [.string xn, .string xt, .slice xA xs.length xc]
            generalize wr.alloc (Obj.cells #[.string xn, .string xt, .slice xA xs.length xc] 32) = wn at hbx hbk ⊢
            rw [← hg] at hbk ⊢
            have hgl := hbk.lt
            have HB := Lib.hid (cur_step1 HB0.out hbx)
            have HK := Lib.hid (show Keep w wn [(g, 0, .string xn), (g, 1, .string xt), (g, 2, .slice xA xs.length xc)] from ⟨HB.out, fun c hc => by simp at hc; rcases hc with rfl | rfl | rfl <;> exact ⟨hgl, hbk.cell _⟩⟩)
            have d0 : wn.cell? ⟨g, 0, none⟩ = some (.string xn) := HK.out.get (by simp)
            have d1 : wn.cell? ⟨g, 1, none⟩ = some (.string xt) := HK.out.get (by simp)
            have d2 : wn.cell? ⟨g, 2, none⟩ = some (.slice xA xs.length xc) := HK.out.get (by simp)
            have hgl := HK.out.lt (b := g) (o := 0) (v := .string xn) (by simp)
            have hgb : b < g := by rw [hg]; exact hbl
            clear hbx hbk hg c0 c1 c2
            go_wp2_with (first
              | (go_at_call 52; refine (name_p xn _ _ HS.out.1 HN1.out).mono ?_; rintro e wn ⟨rfl, hbn⟩; replace HB := Lib.hid (cur_step1 HB.out hbn); replace HK := Lib.hid (HK.out.to hbn); have d0 : wn.cell? ⟨g, 0, none⟩ = some (.string xn) := HK.out.get (by simp); have d1 : wn.cell? ⟨g, 1, none⟩ = some (.string xt) := HK.out.get (by simp); have d2 : wn.cell? ⟨g, 2, none⟩ = some (.slice xA xs.length xc) := HK.out.get (by simp); have hgl := HK.out.lt (b := g) (o := 0) (v := .string xn) (by simp); clear hbn; clear HN1)
              | (go_at_call 52; refine (name_p xt _ _ HS.out.2.1 HN2.out).mono ?_; rintro e wn ⟨rfl, hbn⟩; replace HB := Lib.hid (cur_step1 HB.out hbn); replace HK := Lib.hid (HK.out.to hbn); have d0 : wn.cell? ⟨g, 0, none⟩ = some (.string xn) := HK.out.get (by simp); have d1 : wn.cell? ⟨g, 1, none⟩ = some (.string xt) := HK.out.get (by simp); have d2 : wn.cell? ⟨g, 2, none⟩ = some (.slice xA xs.length xc) := HK.out.get (by simp); have hgl := HK.out.lt (b := g) (o := 0) (v := .string xn) (by simp); clear hbn; clear HN2))
            go_ret
            exact ⟨ret_int HE.out, HB.out⟩
          · rcases Nat.eq_zero_or_pos k with hk0 | hk0
            · subst hk0
              have HREST := Lib.hid (show uErr U 0 = if 400 < xs.length then 9 else ckN xs by rw [HT.out]; simp only [errU, befU, hn1, he, hn2]; rfl)
              simp only [Nat.zero_mul, Nat.add_zero] at c0 c1 c2
              have HN1 := Lib.hid hn1
              have HN2 := Lib.hid hn2
              have es := isE_to xt
              rw [he] at es
              clear hn1 hn2 he
              go_wp2_with fail
              obtain ⟨g, hg⟩ : ∃ g, g = wr.heap.size := ⟨_, rfl⟩
              have hbx := cur_new wr (.cells #[.string xn, .string xt, .slice xA xs.length xc] 32)
              have hbk := Blk.new wr 32 [.string xn, .string xt, .slice xA xs.length xc]
              generalize wr.alloc (Obj.cells #[.string xn, .string xt, .slice xA xs.length xc] 32) = wn at hbx hbk ⊢
              rw [← hg] at hbk ⊢
              have hgl := hbk.lt
              have HB := Lib.hid (cur_step1 HB0.out hbx)
              have HK := Lib.hid (show Keep w wn [(g, 0, .string xn), (g, 1, .string xt), (g, 2, .slice xA xs.length xc)] from ⟨HB.out, fun c hc => by simp at hc; rcases hc with rfl | rfl | rfl <;> exact ⟨hgl, hbk.cell _⟩⟩)
              have d0 : wn.cell? ⟨g, 0, none⟩ = some (.string xn) := HK.out.get (by simp)
              have d1 : wn.cell? ⟨g, 1, none⟩ = some (.string xt) := HK.out.get (by simp)
              have d2 : wn.cell? ⟨g, 2, none⟩ = some (.slice xA xs.length xc) := HK.out.get (by simp)
              have hgl := HK.out.lt (b := g) (o := 0) (v := .string xn) (by simp)
              have hgb : b < g := by rw [hg]; exact hbl
              clear hbx hbk hg c0 c1 c2
              go_wp2_with (first
                | (go_at_call 52; refine (name_p xn _ _ HS.out.1 HN1.out).mono ?_; rintro e wn ⟨rfl, hbn⟩; replace HB := Lib.hid (cur_step1 HB.out hbn); replace HK := Lib.hid (HK.out.to hbn); have d0 : wn.cell? ⟨g, 0, none⟩ = some (.string xn) := HK.out.get (by simp); have d1 : wn.cell? ⟨g, 1, none⟩ = some (.string xt) := HK.out.get (by simp); have d2 : wn.cell? ⟨g, 2, none⟩ = some (.slice xA xs.length xc) := HK.out.get (by simp); have hgl := HK.out.lt (b := g) (o := 0) (v := .string xn) (by simp); clear hbn; clear HN1)
                | (go_at_call 52; refine (name_p xt _ _ HS.out.2.1 HN2.out).mono ?_; rintro e wn ⟨rfl, hbn⟩; replace HB := Lib.hid (cur_step1 HB.out hbn); replace HK := Lib.hid (HK.out.to hbn); have d0 : wn.cell? ⟨g, 0, none⟩ = some (.string xn) := HK.out.get (by simp); have d1 : wn.cell? ⟨g, 1, none⟩ = some (.string xt) := HK.out.get (by simp); have d2 : wn.cell? ⟨g, 2, none⟩ = some (.slice xA xs.length xc) := HK.out.get (by simp); have hgl := HK.out.lt (b := g) (o := 0) (v := .string xn) (by simp); clear hbn; clear HN2))
              go_quiet (fail)
              rename Nat => nq
              obtain ⟨W, hW⟩ : ∃ W, wn.drewN nq = W := ⟨_, rfl⟩
              have HBW := Lib.hid (show Below w.heap.size w W by rw [← hW]; exact below_drewN HB.out _)
              have d2 : W.cell? ⟨g, 2, none⟩ = some (.slice xA xs.length xc) := by rw [← hW]; exact d2
              have hgl : g < W.heap.size := by rw [← hW]; exact hgl
              rw [hW]
              clear hW HK HB d0 d1
              by_cases hl4 : 400 < xs.length
              · have hl5 : decide ((400 : Int) < (xs.length : Int)) = true := decide_eq_true (by omega)
                have HE := Lib.hid (FIN.out 9 (by rw [HREST.out, if_pos hl4]) (by decide))
                go_wp2_with fail
                go_ret
                exact ⟨ret_int HE.out, HBW.out⟩
              · have hl5 : decide ((400 : Int) < (xs.length : Int)) = false := decide_eq_false (by omega)
                have HCK := Lib.hid (show uErr U 0 = ckN xs by rw [HREST.out, if_neg hl4])
                have HRX := Lib.hid (HDS.out.to HBW.out)
                go_wp2_with fail
                go_loopw [52] (fun i wr2 => ∃ j : Nat, j ≤ xs.length ∧ i = .int .i64 j ∧ (∀ t, t < j → nErr xs t = 0) ∧ W = wr2) (fun i _ => xs.length - (intOf i).toNat)
                case atStart => exact ⟨0, by omega, rfl, by intro t h; omega, rfl⟩
                case round =>
                  obtain ⟨j, hj, rfl, hnj, rfl⟩ := hrel
                  have HNJ := Lib.hid hnj
                  clear hnj
                  by_cases hjl : j < xs.length
                  · obtain ⟨n, hn⟩ : ∃ n, xs[j]? = some n := ⟨_, List.getElem?_eq_getElem hjl⟩
                    obtain ⟨b3, off3, hA3, hbb3, cn⟩ := rdi_at HRX.out (Below.refl _ _) hn
                    have HTN := Lib.hid (show nErr xs j = if isDayB n = false then 2 else if befN xs j n = true then 8 else 0 by simp [nErr, hn])
                    have FINN := Lib.hid (show ∀ q : Int, nErr xs j = q → q ≠ 0 → q = r from fun q h1 h2 => FIN.out q (by rw [HCK.out]; unfold ckN; rw [res_of HNJ.out hjl (by rw [h1]; exact h2), h1]) h2)
                    have NXTN := Lib.hid (show nErr xs j = 0 → ∀ t, t < j + 1 → nErr xs t = 0 from fun h t ht => by
                      by_cases e : t = j
                      · rw [e]; exact h
                      · exact HNJ.out t (by omega))
                    clear hn
                    rw [hA3] at d2
                    rw [hA3]
                    cases hd : isDayB n
                    · have HE := Lib.hid (FINN.out 2 (by rw [HTN.out, if_pos hd]) (by decide))
                      have HD := Lib.hid hd
                      clear hd
                      go_wp2_with (go_at_call 51; refine (isDay_p _ _ _ HD.out).mono ?_; rintro e wn ⟨rfl, rfl⟩)
                      go_ret
                      exact ⟨ret_int HE.out, HBW.out⟩
                    · have HD := Lib.hid hd
                      have HTM := Lib.hid (show nErr xs j = if befN xs j n = true then 8 else 0 by rw [HTN.out, if_neg (by rw [hd]; decide)])
                      clear hd
                      rcases Nat.eq_zero_or_pos j with hj0 | hj0
                      · subst hj0
                        have HE := Lib.hid (show nErr xs 0 = 0 by rw [HTM.out]; rfl)
                        simp only [Nat.add_zero] at cn
                        go_wp2_with (go_at_call 51; refine (isDay_p _ _ _ HD.out).mono ?_; rintro e wn ⟨rfl, rfl⟩)
                        go_roundw
                        case rel => exact ⟨0 + 1, hjl, by simp, NXTN.out HE.out, trivial⟩
                        case measure => simp [intOf] <;> omega
                      · obtain ⟨p, hp⟩ : ∃ p, j = p + 1 := ⟨j - 1, by omega⟩
                        have hi : (j : Int) - 1 = (p : Int) := by omega
                        have hpl : p < xs.length := by omega
                        obtain ⟨z, hz⟩ : ∃ z, xs[p]? = some z := ⟨_, List.getElem?_eq_getElem hpl⟩
                        have hjd : decide ((0 : Int) < (j : Int)) = true := decide_eq_true (by omega)
                        have hpd : decide ((p : Int) < (xs.length : Int)) = true := decide_eq_true (by omega)
                        have HBN := Lib.hid (show befN xs j n = decide (n ≤ z) by rw [hp]; simp [befN, hz])
                        obtain ⟨b4, off4, hA4, _, cz⟩ := rdi_at HRX.out (Below.refl _ _) hz
                        rw [hA3] at hA4
                        injection hA4 with hA4
                        injection hA4 with h6 h7 _
                        subst h6 h7
                        have HP := Lib.hid hp
                        clear hp hz
                        cases hz4 : decide (n ≤ z)
                        · have HE := Lib.hid (show nErr xs j = 0 by rw [HTM.out, HBN.out, hz4]; rfl)
                          go_wp2_with (go_at_call 51; refine (isDay_p _ _ _ HD.out).mono ?_; rintro e wn ⟨rfl, rfl⟩)
                          go_roundw
                          case rel => exact ⟨j + 1, hjl, by simp, NXTN.out HE.out, trivial⟩
                          case measure => simp [intOf] <;> omega
                        · have HE := Lib.hid (FINN.out 8 (by rw [HTM.out, HBN.out, hz4]; rfl) (by decide))
                          go_wp2_with (go_at_call 51; refine (isDay_p _ _ _ HD.out).mono ?_; rintro e wn ⟨rfl, rfl⟩)
                          go_ret
                          exact ⟨ret_int HE.out, HBW.out⟩
                  · have hke := Lib.hid (show j = xs.length by omega)
                    have HE := Lib.hid (show uErr U 0 = 0 by rw [HCK.out]; unfold ckN; rw [res_end (by rw [← hke.out]; exact HNJ.out)])
                    go_wp2_with fail
                    go_roundw
                    case rel => exact ⟨0 + 1, hlt2, by simp, NXT.out HE.out, HBW.out⟩
                    case measure => simp [intOf] <;> omega
            · obtain ⟨q, hq⟩ : ∃ q, k = q + 1 := ⟨k - 1, by omega⟩
              have hi : (k : Int) - 1 = (q : Int) := by omega
              have hql : q < U.length := by omega
              obtain ⟨⟨zn, zt, zs, zA, zc⟩, hy⟩ : ∃ y, U[q]? = some y := ⟨_, List.getElem?_eq_getElem hql⟩
              have hkd : decide ((0 : Int) < (k : Int)) = true := decide_eq_true (by omega)
              have hqd : decide ((q : Int) < (U.length : Int)) = true := decide_eq_true (by omega)
              have hbu : befU U k ⟨xn, xt, xs, xA, xc⟩ = !slt zn xn := by rw [hq]; simp [befU, hy]
              obtain ⟨b5, off5, h5, _, hcl5⟩ := HR.out.at_ HB0.out hy
              injection h5 with h5
              injection h5 with h6 h7 _
              subst h6 h7
              obtain ⟨cy, _, _⟩ := um_cells hcl5
              have HCY := Lib.hid cy
              have HQ := Lib.hid hq
              have hle := leq_eq zn.toList xn.toList
              rw [slt_to zn xn] at hle
              clear hq hcl5 hy cy
              cases hb1 : Op.bytesLess xn.toList zn.toList
              · cases hb2 : (xn.toList == zn.toList)
                · have hz : slt zn xn = true := by rw [hb1, hb2] at hle; simpa using hle
                  clear hle
                  have HREST := Lib.hid (show uErr U k = if 400 < xs.length then 9 else ckN xs by rw [HT.out]; simp only [errU, hbu, hz, hn1, he, hn2]; rfl)
                  clear hbu hz
                  have HN1 := Lib.hid hn1
                  have HN2 := Lib.hid hn2
                  have es := isE_to xt
                  rw [he] at es
                  clear hn1 hn2 he
                  go_wp2_with fail
                  obtain ⟨g, hg⟩ : ∃ g, g = wr.heap.size := ⟨_, rfl⟩
                  have hbx := cur_new wr (.cells #[.string xn, .string xt, .slice xA xs.length xc] 32)
                  have hbk := Blk.new wr 32 [.string xn, .string xt, .slice xA xs.length xc]
                  generalize wr.alloc (Obj.cells #[.string xn, .string xt, .slice xA xs.length xc] 32) = wn at hbx hbk ⊢
                  rw [← hg] at hbk ⊢
                  have hgl := hbk.lt
                  have HB := Lib.hid (cur_step1 HB0.out hbx)
                  have HK := Lib.hid (show Keep w wn [(g, 0, .string xn), (g, 1, .string xt), (g, 2, .slice xA xs.length xc)] from ⟨HB.out, fun c hc => by simp at hc; rcases hc with rfl | rfl | rfl <;> exact ⟨hgl, hbk.cell _⟩⟩)
                  have d0 : wn.cell? ⟨g, 0, none⟩ = some (.string xn) := HK.out.get (by simp)
                  have d1 : wn.cell? ⟨g, 1, none⟩ = some (.string xt) := HK.out.get (by simp)
                  have d2 : wn.cell? ⟨g, 2, none⟩ = some (.slice xA xs.length xc) := HK.out.get (by simp)
                  have hgl := HK.out.lt (b := g) (o := 0) (v := .string xn) (by simp)
                  have hgb : b < g := by rw [hg]; exact hbl
                  have HK2 := Lib.hid (show Keep w wn [(b, off + q * 3, .string zn)] from ⟨HB.out, fun c hc => by simp at hc; rcases hc with rfl; exact ⟨Nat.lt_of_lt_of_le hbl hbx.size, (hbx.cell (p := ⟨b, off + q * 3, none⟩) hbl).trans HCY.out⟩⟩)
                  have cy : wn.cell? ⟨b, off + q * 3, none⟩ = some (.string zn) := HK2.out.get (by simp)
                  clear hbx hbk hg c0 c1 c2
                  go_wp2_with (first
                    | (go_at_call 52; refine (name_p xn _ _ HS.out.1 HN1.out).mono ?_; rintro e wn ⟨rfl, hbn⟩; replace HB := Lib.hid (cur_step1 HB.out hbn); replace HK := Lib.hid (HK.out.to hbn); have d0 : wn.cell? ⟨g, 0, none⟩ = some (.string xn) := HK.out.get (by simp); have d1 : wn.cell? ⟨g, 1, none⟩ = some (.string xt) := HK.out.get (by simp); have d2 : wn.cell? ⟨g, 2, none⟩ = some (.slice xA xs.length xc) := HK.out.get (by simp); have hgl := HK.out.lt (b := g) (o := 0) (v := .string xn) (by simp); replace HK2 := Lib.hid (HK2.out.to hbn); have cy : wn.cell? ⟨b, off + q * 3, none⟩ = some (.string zn) := HK2.out.get (by simp); have hbl2 := HK2.out.lt (b := b) (o := off + q * 3) (v := .string zn) (by simp); clear hbn; clear HN1)
                    | (go_at_call 52; refine (name_p xt _ _ HS.out.2.1 HN2.out).mono ?_; rintro e wn ⟨rfl, hbn⟩; replace HB := Lib.hid (cur_step1 HB.out hbn); replace HK := Lib.hid (HK.out.to hbn); have d0 : wn.cell? ⟨g, 0, none⟩ = some (.string xn) := HK.out.get (by simp); have d1 : wn.cell? ⟨g, 1, none⟩ = some (.string xt) := HK.out.get (by simp); have d2 : wn.cell? ⟨g, 2, none⟩ = some (.slice xA xs.length xc) := HK.out.get (by simp); have hgl := HK.out.lt (b := g) (o := 0) (v := .string xn) (by simp); replace HK2 := Lib.hid (HK2.out.to hbn); have cy : wn.cell? ⟨b, off + q * 3, none⟩ = some (.string zn) := HK2.out.get (by simp); have hbl2 := HK2.out.lt (b := b) (o := off + q * 3) (v := .string zn) (by simp); clear hbn; clear HN2))
                  go_quiet (fail)
                  rename Nat => nq
                  obtain ⟨W, hW⟩ : ∃ W, wn.drewN nq = W := ⟨_, rfl⟩
                  have HBW := Lib.hid (show Below w.heap.size w W by rw [← hW]; exact below_drewN HB.out _)
                  have d2 : W.cell? ⟨g, 2, none⟩ = some (.slice xA xs.length xc) := by rw [← hW]; exact d2
                  have hgl : g < W.heap.size := by rw [← hW]; exact hgl
                  rw [hW]
                  clear hW HK HB d0 d1
                  by_cases hl4 : 400 < xs.length
                  · have hl5 : decide ((400 : Int) < (xs.length : Int)) = true := decide_eq_true (by omega)
                    have HE := Lib.hid (FIN.out 9 (by rw [HREST.out, if_pos hl4]) (by decide))
                    go_wp2_with fail
                    go_ret
                    exact ⟨ret_int HE.out, HBW.out⟩
                  · have hl5 : decide ((400 : Int) < (xs.length : Int)) = false := decide_eq_false (by omega)
                    have HCK := Lib.hid (show uErr U k = ckN xs by rw [HREST.out, if_neg hl4])
                    have HRX := Lib.hid (HDS.out.to HBW.out)
                    go_wp2_with fail
                    go_loopw [52] (fun i wr2 => ∃ j : Nat, j ≤ xs.length ∧ i = .int .i64 j ∧ (∀ t, t < j → nErr xs t = 0) ∧ W = wr2) (fun i _ => xs.length - (intOf i).toNat)
                    case atStart => exact ⟨0, by omega, rfl, by intro t h; omega, rfl⟩
                    case round =>
                      obtain ⟨j, hj, rfl, hnj, rfl⟩ := hrel
                      have HNJ := Lib.hid hnj
                      clear hnj
                      by_cases hjl : j < xs.length
                      · obtain ⟨n, hn⟩ : ∃ n, xs[j]? = some n := ⟨_, List.getElem?_eq_getElem hjl⟩
                        obtain ⟨b3, off3, hA3, hbb3, cn⟩ := rdi_at HRX.out (Below.refl _ _) hn
                        have HTN := Lib.hid (show nErr xs j = if isDayB n = false then 2 else if befN xs j n = true then 8 else 0 by simp [nErr, hn])
                        have FINN := Lib.hid (show ∀ q : Int, nErr xs j = q → q ≠ 0 → q = r from fun q h1 h2 => FIN.out q (by rw [HCK.out]; unfold ckN; rw [res_of HNJ.out hjl (by rw [h1]; exact h2), h1]) h2)
                        have NXTN := Lib.hid (show nErr xs j = 0 → ∀ t, t < j + 1 → nErr xs t = 0 from fun h t ht => by
                          by_cases e : t = j
                          · rw [e]; exact h
                          · exact HNJ.out t (by omega))
                        clear hn
                        rw [hA3] at d2
                        rw [hA3]
                        cases hd : isDayB n
                        · have HE := Lib.hid (FINN.out 2 (by rw [HTN.out, if_pos hd]) (by decide))
                          have HD := Lib.hid hd
                          clear hd
                          go_wp2_with (go_at_call 51; refine (isDay_p _ _ _ HD.out).mono ?_; rintro e wn ⟨rfl, rfl⟩)
                          go_ret
                          exact ⟨ret_int HE.out, HBW.out⟩
                        · have HD := Lib.hid hd
                          have HTM := Lib.hid (show nErr xs j = if befN xs j n = true then 8 else 0 by rw [HTN.out, if_neg (by rw [hd]; decide)])
                          clear hd
                          rcases Nat.eq_zero_or_pos j with hj0 | hj0
                          · subst hj0
                            have HE := Lib.hid (show nErr xs 0 = 0 by rw [HTM.out]; rfl)
                            simp only [Nat.add_zero] at cn
                            go_wp2_with (go_at_call 51; refine (isDay_p _ _ _ HD.out).mono ?_; rintro e wn ⟨rfl, rfl⟩)
                            go_roundw
                            case rel => exact ⟨0 + 1, hjl, by simp, NXTN.out HE.out, trivial⟩
                            case measure => simp [intOf] <;> omega
                          · obtain ⟨p, hp⟩ : ∃ p, j = p + 1 := ⟨j - 1, by omega⟩
                            have hi : (j : Int) - 1 = (p : Int) := by omega
                            have hpl : p < xs.length := by omega
                            obtain ⟨z, hz⟩ : ∃ z, xs[p]? = some z := ⟨_, List.getElem?_eq_getElem hpl⟩
                            have hjd : decide ((0 : Int) < (j : Int)) = true := decide_eq_true (by omega)
                            have hpd : decide ((p : Int) < (xs.length : Int)) = true := decide_eq_true (by omega)
                            have HBN := Lib.hid (show befN xs j n = decide (n ≤ z) by rw [hp]; simp [befN, hz])
                            obtain ⟨b4, off4, hA4, _, cz⟩ := rdi_at HRX.out (Below.refl _ _) hz
                            rw [hA3] at hA4
                            injection hA4 with hA4
                            injection hA4 with h6 h7 _
                            subst h6 h7
                            have HP := Lib.hid hp
                            clear hp hz
                            cases hz4 : decide (n ≤ z)
                            · have HE := Lib.hid (show nErr xs j = 0 by rw [HTM.out, HBN.out, hz4]; rfl)
                              go_wp2_with (go_at_call 51; refine (isDay_p _ _ _ HD.out).mono ?_; rintro e wn ⟨rfl, rfl⟩)
                              go_roundw
                              case rel => exact ⟨j + 1, hjl, by simp, NXTN.out HE.out, trivial⟩
                              case measure => simp [intOf] <;> omega
                            · have HE := Lib.hid (FINN.out 8 (by rw [HTM.out, HBN.out, hz4]; rfl) (by decide))
                              go_wp2_with (go_at_call 51; refine (isDay_p _ _ _ HD.out).mono ?_; rintro e wn ⟨rfl, rfl⟩)
                              go_ret
                              exact ⟨ret_int HE.out, HBW.out⟩
                      · have hke := Lib.hid (show j = xs.length by omega)
                        have HE := Lib.hid (show uErr U k = 0 by rw [HCK.out]; unfold ckN; rw [res_end (by rw [← hke.out]; exact HNJ.out)])
                        go_wp2_with fail
                        go_roundw
                        case rel => exact ⟨k + 1, hlt2, by simp, NXT.out HE.out, HBW.out⟩
                        case measure => simp [intOf] <;> omega
                · have hz : slt zn xn = false := by rw [hb1, hb2] at hle; simpa using hle
                  clear hle
                  have HE := Lib.hid (FIN.out 8 (by rw [HT.out]; simp only [errU, hbu, hz, hn1, he, hn2]; rfl) (by decide))
                  clear hbu hz
                  have HN1 := Lib.hid hn1
                  have HN2 := Lib.hid hn2
                  have es := isE_to xt
                  rw [he] at es
                  clear hn1 hn2 he
                  go_wp2_with fail
                  obtain ⟨g, hg⟩ : ∃ g, g = wr.heap.size := ⟨_, rfl⟩
                  have hbx := cur_new wr (.cells #[.string xn, .string xt, .slice xA xs.length xc] 32)
                  have hbk := Blk.new wr 32 [.string xn, .string xt, .slice xA xs.length xc]
                  generalize wr.alloc (Obj.cells #[.string xn, .string xt, .slice xA xs.length xc] 32) = wn at hbx hbk ⊢
                  rw [← hg] at hbk ⊢
                  have hgl := hbk.lt
                  have HB := Lib.hid (cur_step1 HB0.out hbx)
                  have HK := Lib.hid (show Keep w wn [(g, 0, .string xn), (g, 1, .string xt), (g, 2, .slice xA xs.length xc)] from ⟨HB.out, fun c hc => by simp at hc; rcases hc with rfl | rfl | rfl <;> exact ⟨hgl, hbk.cell _⟩⟩)
                  have d0 : wn.cell? ⟨g, 0, none⟩ = some (.string xn) := HK.out.get (by simp)
                  have d1 : wn.cell? ⟨g, 1, none⟩ = some (.string xt) := HK.out.get (by simp)
                  have d2 : wn.cell? ⟨g, 2, none⟩ = some (.slice xA xs.length xc) := HK.out.get (by simp)
                  have hgl := HK.out.lt (b := g) (o := 0) (v := .string xn) (by simp)
                  have hgb : b < g := by rw [hg]; exact hbl
                  have HK2 := Lib.hid (show Keep w wn [(b, off + q * 3, .string zn)] from ⟨HB.out, fun c hc => by simp at hc; rcases hc with rfl; exact ⟨Nat.lt_of_lt_of_le hbl hbx.size, (hbx.cell (p := ⟨b, off + q * 3, none⟩) hbl).trans HCY.out⟩⟩)
                  have cy : wn.cell? ⟨b, off + q * 3, none⟩ = some (.string zn) := HK2.out.get (by simp)
                  clear hbx hbk hg c0 c1 c2
                  go_wp2_with (first
                    | (go_at_call 52; refine (name_p xn _ _ HS.out.1 HN1.out).mono ?_; rintro e wn ⟨rfl, hbn⟩; replace HB := Lib.hid (cur_step1 HB.out hbn); replace HK := Lib.hid (HK.out.to hbn); have d0 : wn.cell? ⟨g, 0, none⟩ = some (.string xn) := HK.out.get (by simp); have d1 : wn.cell? ⟨g, 1, none⟩ = some (.string xt) := HK.out.get (by simp); have d2 : wn.cell? ⟨g, 2, none⟩ = some (.slice xA xs.length xc) := HK.out.get (by simp); have hgl := HK.out.lt (b := g) (o := 0) (v := .string xn) (by simp); replace HK2 := Lib.hid (HK2.out.to hbn); have cy : wn.cell? ⟨b, off + q * 3, none⟩ = some (.string zn) := HK2.out.get (by simp); have hbl2 := HK2.out.lt (b := b) (o := off + q * 3) (v := .string zn) (by simp); clear hbn; clear HN1)
                    | (go_at_call 52; refine (name_p xt _ _ HS.out.2.1 HN2.out).mono ?_; rintro e wn ⟨rfl, hbn⟩; replace HB := Lib.hid (cur_step1 HB.out hbn); replace HK := Lib.hid (HK.out.to hbn); have d0 : wn.cell? ⟨g, 0, none⟩ = some (.string xn) := HK.out.get (by simp); have d1 : wn.cell? ⟨g, 1, none⟩ = some (.string xt) := HK.out.get (by simp); have d2 : wn.cell? ⟨g, 2, none⟩ = some (.slice xA xs.length xc) := HK.out.get (by simp); have hgl := HK.out.lt (b := g) (o := 0) (v := .string xn) (by simp); replace HK2 := Lib.hid (HK2.out.to hbn); have cy : wn.cell? ⟨b, off + q * 3, none⟩ = some (.string zn) := HK2.out.get (by simp); have hbl2 := HK2.out.lt (b := b) (o := off + q * 3) (v := .string zn) (by simp); clear hbn; clear HN2))
                  go_quiet (fail)
                  go_wp2_with fail
                  go_ret
                  exact ⟨ret_int HE.out, below_drewN HB.out _⟩
              · have hz : slt zn xn = false := by rw [hb1] at hle; simpa using hle
                clear hle
                have HE := Lib.hid (FIN.out 8 (by rw [HT.out]; simp only [errU, hbu, hz, hn1, he, hn2]; rfl) (by decide))
                clear hbu hz
                have HN1 := Lib.hid hn1
                have HN2 := Lib.hid hn2
                have es := isE_to xt
                rw [he] at es
                clear hn1 hn2 he
                go_wp2_with fail
                obtain ⟨g, hg⟩ : ∃ g, g = wr.heap.size := ⟨_, rfl⟩
                have hbx := cur_new wr (.cells #[.string xn, .string xt, .slice xA xs.length xc] 32)
                have hbk := Blk.new wr 32 [.string xn, .string xt, .slice xA xs.length xc]
                generalize wr.alloc (Obj.cells #[.string xn, .string xt, .slice xA xs.length xc] 32) = wn at hbx hbk ⊢
                rw [← hg] at hbk ⊢
                have hgl := hbk.lt
                have HB := Lib.hid (cur_step1 HB0.out hbx)
                have HK := Lib.hid (show Keep w wn [(g, 0, .string xn), (g, 1, .string xt), (g, 2, .slice xA xs.length xc)] from ⟨HB.out, fun c hc => by simp at hc; rcases hc with rfl | rfl | rfl <;> exact ⟨hgl, hbk.cell _⟩⟩)
                have d0 : wn.cell? ⟨g, 0, none⟩ = some (.string xn) := HK.out.get (by simp)
                have d1 : wn.cell? ⟨g, 1, none⟩ = some (.string xt) := HK.out.get (by simp)
                have d2 : wn.cell? ⟨g, 2, none⟩ = some (.slice xA xs.length xc) := HK.out.get (by simp)
                have hgl := HK.out.lt (b := g) (o := 0) (v := .string xn) (by simp)
                have hgb : b < g := by rw [hg]; exact hbl
                have HK2 := Lib.hid (show Keep w wn [(b, off + q * 3, .string zn)] from ⟨HB.out, fun c hc => by simp at hc; rcases hc with rfl; exact ⟨Nat.lt_of_lt_of_le hbl hbx.size, (hbx.cell (p := ⟨b, off + q * 3, none⟩) hbl).trans HCY.out⟩⟩)
                have cy : wn.cell? ⟨b, off + q * 3, none⟩ = some (.string zn) := HK2.out.get (by simp)
                clear hbx hbk hg c0 c1 c2
                go_wp2_with (first
                  | (go_at_call 52; refine (name_p xn _ _ HS.out.1 HN1.out).mono ?_; rintro e wn ⟨rfl, hbn⟩; replace HB := Lib.hid (cur_step1 HB.out hbn); replace HK := Lib.hid (HK.out.to hbn); have d0 : wn.cell? ⟨g, 0, none⟩ = some (.string xn) := HK.out.get (by simp); have d1 : wn.cell? ⟨g, 1, none⟩ = some (.string xt) := HK.out.get (by simp); have d2 : wn.cell? ⟨g, 2, none⟩ = some (.slice xA xs.length xc) := HK.out.get (by simp); have hgl := HK.out.lt (b := g) (o := 0) (v := .string xn) (by simp); replace HK2 := Lib.hid (HK2.out.to hbn); have cy : wn.cell? ⟨b, off + q * 3, none⟩ = some (.string zn) := HK2.out.get (by simp); have hbl2 := HK2.out.lt (b := b) (o := off + q * 3) (v := .string zn) (by simp); clear hbn; clear HN1)
                  | (go_at_call 52; refine (name_p xt _ _ HS.out.2.1 HN2.out).mono ?_; rintro e wn ⟨rfl, hbn⟩; replace HB := Lib.hid (cur_step1 HB.out hbn); replace HK := Lib.hid (HK.out.to hbn); have d0 : wn.cell? ⟨g, 0, none⟩ = some (.string xn) := HK.out.get (by simp); have d1 : wn.cell? ⟨g, 1, none⟩ = some (.string xt) := HK.out.get (by simp); have d2 : wn.cell? ⟨g, 2, none⟩ = some (.slice xA xs.length xc) := HK.out.get (by simp); have hgl := HK.out.lt (b := g) (o := 0) (v := .string xn) (by simp); replace HK2 := Lib.hid (HK2.out.to hbn); have cy : wn.cell? ⟨b, off + q * 3, none⟩ = some (.string zn) := HK2.out.get (by simp); have hbl2 := HK2.out.lt (b := b) (o := off + q * 3) (v := .string zn) (by simp); clear hbn; clear HN2))
                go_quiet (fail)
                go_wp2_with fail
                go_ret
                exact ⟨ret_int HE.out, below_drewN HB.out _⟩
        · rcases Nat.eq_zero_or_pos k with hk0 | hk0
          · subst hk0
            have HREST := Lib.hid (show uErr U 0 = if 400 < xs.length then 9 else ckN xs by rw [HT.out]; simp only [errU, befU, hn1, he]; rfl)
            simp only [Nat.zero_mul, Nat.add_zero] at c0 c1 c2
            have HN1 := Lib.hid hn1
            have es := isE_to xt
            rw [he] at es
            clear hn1 he
            go_wp2_with fail
            obtain ⟨g, hg⟩ : ∃ g, g = wr.heap.size := ⟨_, rfl⟩
            have hbx := cur_new wr (.cells #[.string xn, .string xt, .slice xA xs.length xc] 32)
            have hbk := Blk.new wr 32 [.string xn, .string xt, .slice xA xs.length xc]
            generalize wr.alloc (Obj.cells #[.string xn, .string xt, .slice xA xs.length xc] 32) = wn at hbx hbk ⊢
            rw [← hg] at hbk ⊢
            have hgl := hbk.lt
            have HB := Lib.hid (cur_step1 HB0.out hbx)
            have HK := Lib.hid (show Keep w wn [(g, 0, .string xn), (g, 1, .string xt), (g, 2, .slice xA xs.length xc)] from ⟨HB.out, fun c hc => by simp at hc; rcases hc with rfl | rfl | rfl <;> exact ⟨hgl, hbk.cell _⟩⟩)
            have d0 : wn.cell? ⟨g, 0, none⟩ = some (.string xn) := HK.out.get (by simp)
            have d1 : wn.cell? ⟨g, 1, none⟩ = some (.string xt) := HK.out.get (by simp)
            have d2 : wn.cell? ⟨g, 2, none⟩ = some (.slice xA xs.length xc) := HK.out.get (by simp)
            have hgl := HK.out.lt (b := g) (o := 0) (v := .string xn) (by simp)
            have hgb : b < g := by rw [hg]; exact hbl
            clear hbx hbk hg c0 c1 c2
            go_wp2_with (first
              | (go_at_call 52; refine (name_p xn _ _ HS.out.1 HN1.out).mono ?_; rintro e wn ⟨rfl, hbn⟩; replace HB := Lib.hid (cur_step1 HB.out hbn); replace HK := Lib.hid (HK.out.to hbn); have d0 : wn.cell? ⟨g, 0, none⟩ = some (.string xn) := HK.out.get (by simp); have d1 : wn.cell? ⟨g, 1, none⟩ = some (.string xt) := HK.out.get (by simp); have d2 : wn.cell? ⟨g, 2, none⟩ = some (.slice xA xs.length xc) := HK.out.get (by simp); have hgl := HK.out.lt (b := g) (o := 0) (v := .string xn) (by simp); clear hbn; clear HN1)
              | (go_at_call 52; refine (name_p xt _ _ HS.out.2.1 HN2.out).mono ?_; rintro e wn ⟨rfl, hbn⟩; replace HB := Lib.hid (cur_step1 HB.out hbn); replace HK := Lib.hid (HK.out.to hbn); have d0 : wn.cell? ⟨g, 0, none⟩ = some (.string xn) := HK.out.get (by simp); have d1 : wn.cell? ⟨g, 1, none⟩ = some (.string xt) := HK.out.get (by simp); have d2 : wn.cell? ⟨g, 2, none⟩ = some (.slice xA xs.length xc) := HK.out.get (by simp); have hgl := HK.out.lt (b := g) (o := 0) (v := .string xn) (by simp); clear hbn; clear HN2))
            go_quiet (fail)
            rename Nat => nq
            obtain ⟨W, hW⟩ : ∃ W, wn.drewN nq = W := ⟨_, rfl⟩
            have HBW := Lib.hid (show Below w.heap.size w W by rw [← hW]; exact below_drewN HB.out _)
            have d2 : W.cell? ⟨g, 2, none⟩ = some (.slice xA xs.length xc) := by rw [← hW]; exact d2
            have hgl : g < W.heap.size := by rw [← hW]; exact hgl
            rw [hW]
            clear hW HK HB d0 d1
            by_cases hl4 : 400 < xs.length
            · have hl5 : decide ((400 : Int) < (xs.length : Int)) = true := decide_eq_true (by omega)
              have HE := Lib.hid (FIN.out 9 (by rw [HREST.out, if_pos hl4]) (by decide))
              go_wp2_with fail
              go_ret
              exact ⟨ret_int HE.out, HBW.out⟩
            · have hl5 : decide ((400 : Int) < (xs.length : Int)) = false := decide_eq_false (by omega)
              have HCK := Lib.hid (show uErr U 0 = ckN xs by rw [HREST.out, if_neg hl4])
              have HRX := Lib.hid (HDS.out.to HBW.out)
              go_wp2_with fail
              go_loopw [52] (fun i wr2 => ∃ j : Nat, j ≤ xs.length ∧ i = .int .i64 j ∧ (∀ t, t < j → nErr xs t = 0) ∧ W = wr2) (fun i _ => xs.length - (intOf i).toNat)
              case atStart => exact ⟨0, by omega, rfl, by intro t h; omega, rfl⟩
              case round =>
                obtain ⟨j, hj, rfl, hnj, rfl⟩ := hrel
                have HNJ := Lib.hid hnj
                clear hnj
                by_cases hjl : j < xs.length
                · obtain ⟨n, hn⟩ : ∃ n, xs[j]? = some n := ⟨_, List.getElem?_eq_getElem hjl⟩
                  obtain ⟨b3, off3, hA3, hbb3, cn⟩ := rdi_at HRX.out (Below.refl _ _) hn
                  have HTN := Lib.hid (show nErr xs j = if isDayB n = false then 2 else if befN xs j n = true then 8 else 0 by simp [nErr, hn])
                  have FINN := Lib.hid (show ∀ q : Int, nErr xs j = q → q ≠ 0 → q = r from fun q h1 h2 => FIN.out q (by rw [HCK.out]; unfold ckN; rw [res_of HNJ.out hjl (by rw [h1]; exact h2), h1]) h2)
                  have NXTN := Lib.hid (show nErr xs j = 0 → ∀ t, t < j + 1 → nErr xs t = 0 from fun h t ht => by
                    by_cases e : t = j
                    · rw [e]; exact h
                    · exact HNJ.out t (by omega))
                  clear hn
                  rw [hA3] at d2
                  rw [hA3]
                  cases hd : isDayB n
                  · have HE := Lib.hid (FINN.out 2 (by rw [HTN.out, if_pos hd]) (by decide))
                    have HD := Lib.hid hd
                    clear hd
                    go_wp2_with (go_at_call 51; refine (isDay_p _ _ _ HD.out).mono ?_; rintro e wn ⟨rfl, rfl⟩)
                    go_ret
                    exact ⟨ret_int HE.out, HBW.out⟩
                  · have HD := Lib.hid hd
                    have HTM := Lib.hid (show nErr xs j = if befN xs j n = true then 8 else 0 by rw [HTN.out, if_neg (by rw [hd]; decide)])
                    clear hd
                    rcases Nat.eq_zero_or_pos j with hj0 | hj0
                    · subst hj0
                      have HE := Lib.hid (show nErr xs 0 = 0 by rw [HTM.out]; rfl)
                      simp only [Nat.add_zero] at cn
                      go_wp2_with (go_at_call 51; refine (isDay_p _ _ _ HD.out).mono ?_; rintro e wn ⟨rfl, rfl⟩)
                      go_roundw
                      case rel => exact ⟨0 + 1, hjl, by simp, NXTN.out HE.out, trivial⟩
                      case measure => simp [intOf] <;> omega
                    · obtain ⟨p, hp⟩ : ∃ p, j = p + 1 := ⟨j - 1, by omega⟩
                      have hi : (j : Int) - 1 = (p : Int) := by omega
                      have hpl : p < xs.length := by omega
                      obtain ⟨z, hz⟩ : ∃ z, xs[p]? = some z := ⟨_, List.getElem?_eq_getElem hpl⟩
                      have hjd : decide ((0 : Int) < (j : Int)) = true := decide_eq_true (by omega)
                      have hpd : decide ((p : Int) < (xs.length : Int)) = true := decide_eq_true (by omega)
                      have HBN := Lib.hid (show befN xs j n = decide (n ≤ z) by rw [hp]; simp [befN, hz])
                      obtain ⟨b4, off4, hA4, _, cz⟩ := rdi_at HRX.out (Below.refl _ _) hz
                      rw [hA3] at hA4
                      injection hA4 with hA4
                      injection hA4 with h6 h7 _
                      subst h6 h7
                      have HP := Lib.hid hp
                      clear hp hz
                      cases hz4 : decide (n ≤ z)
                      · have HE := Lib.hid (show nErr xs j = 0 by rw [HTM.out, HBN.out, hz4]; rfl)
                        go_wp2_with (go_at_call 51; refine (isDay_p _ _ _ HD.out).mono ?_; rintro e wn ⟨rfl, rfl⟩)
                        go_roundw
                        case rel => exact ⟨j + 1, hjl, by simp, NXTN.out HE.out, trivial⟩
                        case measure => simp [intOf] <;> omega
                      · have HE := Lib.hid (FINN.out 8 (by rw [HTM.out, HBN.out, hz4]; rfl) (by decide))
                        go_wp2_with (go_at_call 51; refine (isDay_p _ _ _ HD.out).mono ?_; rintro e wn ⟨rfl, rfl⟩)
                        go_ret
                        exact ⟨ret_int HE.out, HBW.out⟩
                · have hke := Lib.hid (show j = xs.length by omega)
                  have HE := Lib.hid (show uErr U 0 = 0 by rw [HCK.out]; unfold ckN; rw [res_end (by rw [← hke.out]; exact HNJ.out)])
                  go_wp2_with fail
                  go_roundw
                  case rel => exact ⟨0 + 1, hlt2, by simp, NXT.out HE.out, HBW.out⟩
                  case measure => simp [intOf] <;> omega
          · obtain ⟨q, hq⟩ : ∃ q, k = q + 1 := ⟨k - 1, by omega⟩
            have hi : (k : Int) - 1 = (q : Int) := by omega
            have hql : q < U.length := by omega
            obtain ⟨⟨zn, zt, zs, zA, zc⟩, hy⟩ : ∃ y, U[q]? = some y := ⟨_, List.getElem?_eq_getElem hql⟩
            have hkd : decide ((0 : Int) < (k : Int)) = true := decide_eq_true (by omega)
            have hqd : decide ((q : Int) < (U.length : Int)) = true := decide_eq_true (by omega)
            have hbu : befU U k ⟨xn, xt, xs, xA, xc⟩ = !slt zn xn := by rw [hq]; simp [befU, hy]
            obtain ⟨b5, off5, h5, _, hcl5⟩ := HR.out.at_ HB0.out hy
            injection h5 with h5
            injection h5 with h6 h7 _
            subst h6 h7
            obtain ⟨cy, _, _⟩ := um_cells hcl5
            have HCY := Lib.hid cy
            have HQ := Lib.hid hq
            have hle := leq_eq zn.toList xn.toList
            rw [slt_to zn xn] at hle
            clear hq hcl5 hy cy
            cases hb1 : Op.bytesLess xn.toList zn.toList
            · cases hb2 : (xn.toList == zn.toList)
              · have hz : slt zn xn = true := by rw [hb1, hb2] at hle; simpa using hle
                clear hle
                have HREST := Lib.hid (show uErr U k = if 400 < xs.length then 9 else ckN xs by rw [HT.out]; simp only [errU, hbu, hz, hn1, he]; rfl)
                clear hbu hz
                have HN1 := Lib.hid hn1
                have es := isE_to xt
                rw [he] at es
                clear hn1 he
                go_wp2_with fail
                obtain ⟨g, hg⟩ : ∃ g, g = wr.heap.size := ⟨_, rfl⟩
                have hbx := cur_new wr (.cells #[.string xn, .string xt, .slice xA xs.length xc] 32)
                have hbk := Blk.new wr 32 [.string xn, .string xt, .slice xA xs.length xc]
                generalize wr.alloc (Obj.cells #[.string xn, .string xt, .slice xA xs.length xc] 32) = wn at hbx hbk ⊢
                rw [← hg] at hbk ⊢
                have hgl := hbk.lt
                have HB := Lib.hid (cur_step1 HB0.out hbx)
                have HK := Lib.hid (show Keep w wn [(g, 0, .string xn), (g, 1, .string xt), (g, 2, .slice xA xs.length xc)] from ⟨HB.out, fun c hc => by simp at hc; rcases hc with rfl | rfl | rfl <;> exact ⟨hgl, hbk.cell _⟩⟩)
                have d0 : wn.cell? ⟨g, 0, none⟩ = some (.string xn) := HK.out.get (by simp)
                have d1 : wn.cell? ⟨g, 1, none⟩ = some (.string xt) := HK.out.get (by simp)
                have d2 : wn.cell? ⟨g, 2, none⟩ = some (.slice xA xs.length xc) := HK.out.get (by simp)
                have hgl := HK.out.lt (b := g) (o := 0) (v := .string xn) (by simp)
                have hgb : b < g := by rw [hg]; exact hbl
                have HK2 := Lib.hid (show Keep w wn [(b, off + q * 3, .string zn)] from ⟨HB.out, fun c hc => by simp at hc; rcases hc with rfl; exact ⟨Nat.lt_of_lt_of_le hbl hbx.size, (hbx.cell (p := ⟨b, off + q * 3, none⟩) hbl).trans HCY.out⟩⟩)
                have cy : wn.cell? ⟨b, off + q * 3, none⟩ = some (.string zn) := HK2.out.get (by simp)
                clear hbx hbk hg c0 c1 c2
                go_wp2_with (first
                  | (go_at_call 52; refine (name_p xn _ _ HS.out.1 HN1.out).mono ?_; rintro e wn ⟨rfl, hbn⟩; replace HB := Lib.hid (cur_step1 HB.out hbn); replace HK := Lib.hid (HK.out.to hbn); have d0 : wn.cell? ⟨g, 0, none⟩ = some (.string xn) := HK.out.get (by simp); have d1 : wn.cell? ⟨g, 1, none⟩ = some (.string xt) := HK.out.get (by simp); have d2 : wn.cell? ⟨g, 2, none⟩ = some (.slice xA xs.length xc) := HK.out.get (by simp); have hgl := HK.out.lt (b := g) (o := 0) (v := .string xn) (by simp); replace HK2 := Lib.hid (HK2.out.to hbn); have cy : wn.cell? ⟨b, off + q * 3, none⟩ = some (.string zn) := HK2.out.get (by simp); have hbl2 := HK2.out.lt (b := b) (o := off + q * 3) (v := .string zn) (by simp); clear hbn; clear HN1)
                  | (go_at_call 52; refine (name_p xt _ _ HS.out.2.1 HN2.out).mono ?_; rintro e wn ⟨rfl, hbn⟩; replace HB := Lib.hid (cur_step1 HB.out hbn); replace HK := Lib.hid (HK.out.to hbn); have d0 : wn.cell? ⟨g, 0, none⟩ = some (.string xn) := HK.out.get (by simp); have d1 : wn.cell? ⟨g, 1, none⟩ = some (.string xt) := HK.out.get (by simp); have d2 : wn.cell? ⟨g, 2, none⟩ = some (.slice xA xs.length xc) := HK.out.get (by simp); have hgl := HK.out.lt (b := g) (o := 0) (v := .string xn) (by simp); replace HK2 := Lib.hid (HK2.out.to hbn); have cy : wn.cell? ⟨b, off + q * 3, none⟩ = some (.string zn) := HK2.out.get (by simp); have hbl2 := HK2.out.lt (b := b) (o := off + q * 3) (v := .string zn) (by simp); clear hbn; clear HN2))
                go_quiet (fail)
                rename Nat => nq
                obtain ⟨W, hW⟩ : ∃ W, wn.drewN nq = W := ⟨_, rfl⟩
                have HBW := Lib.hid (show Below w.heap.size w W by rw [← hW]; exact below_drewN HB.out _)
                have d2 : W.cell? ⟨g, 2, none⟩ = some (.slice xA xs.length xc) := by rw [← hW]; exact d2
                have hgl : g < W.heap.size := by rw [← hW]; exact hgl
                rw [hW]
                clear hW HK HB d0 d1
                by_cases hl4 : 400 < xs.length
                · have hl5 : decide ((400 : Int) < (xs.length : Int)) = true := decide_eq_true (by omega)
                  have HE := Lib.hid (FIN.out 9 (by rw [HREST.out, if_pos hl4]) (by decide))
                  go_wp2_with fail
                  go_ret
                  exact ⟨ret_int HE.out, HBW.out⟩
                · have hl5 : decide ((400 : Int) < (xs.length : Int)) = false := decide_eq_false (by omega)
                  have HCK := Lib.hid (show uErr U k = ckN xs by rw [HREST.out, if_neg hl4])
                  have HRX := Lib.hid (HDS.out.to HBW.out)
                  go_wp2_with fail
                  go_loopw [52] (fun i wr2 => ∃ j : Nat, j ≤ xs.length ∧ i = .int .i64 j ∧ (∀ t, t < j → nErr xs t = 0) ∧ W = wr2) (fun i _ => xs.length - (intOf i).toNat)
                  case atStart => exact ⟨0, by omega, rfl, by intro t h; omega, rfl⟩
                  case round =>
                    obtain ⟨j, hj, rfl, hnj, rfl⟩ := hrel
                    have HNJ := Lib.hid hnj
                    clear hnj
                    by_cases hjl : j < xs.length
                    · obtain ⟨n, hn⟩ : ∃ n, xs[j]? = some n := ⟨_, List.getElem?_eq_getElem hjl⟩
                      obtain ⟨b3, off3, hA3, hbb3, cn⟩ := rdi_at HRX.out (Below.refl _ _) hn
                      have HTN := Lib.hid (show nErr xs j = if isDayB n = false then 2 else if befN xs j n = true then 8 else 0 by simp [nErr, hn])
                      have FINN := Lib.hid (show ∀ q : Int, nErr xs j = q → q ≠ 0 → q = r from fun q h1 h2 => FIN.out q (by rw [HCK.out]; unfold ckN; rw [res_of HNJ.out hjl (by rw [h1]; exact h2), h1]) h2)
                      have NXTN := Lib.hid (show nErr xs j = 0 → ∀ t, t < j + 1 → nErr xs t = 0 from fun h t ht => by
                        by_cases e : t = j
                        · rw [e]; exact h
                        · exact HNJ.out t (by omega))
                      clear hn
                      rw [hA3] at d2
                      rw [hA3]
                      cases hd : isDayB n
                      · have HE := Lib.hid (FINN.out 2 (by rw [HTN.out, if_pos hd]) (by decide))
                        have HD := Lib.hid hd
                        clear hd
                        go_wp2_with (go_at_call 51; refine (isDay_p _ _ _ HD.out).mono ?_; rintro e wn ⟨rfl, rfl⟩)
                        go_ret
                        exact ⟨ret_int HE.out, HBW.out⟩
                      · have HD := Lib.hid hd
                        have HTM := Lib.hid (show nErr xs j = if befN xs j n = true then 8 else 0 by rw [HTN.out, if_neg (by rw [hd]; decide)])
                        clear hd
                        rcases Nat.eq_zero_or_pos j with hj0 | hj0
                        · subst hj0
                          have HE := Lib.hid (show nErr xs 0 = 0 by rw [HTM.out]; rfl)
                          simp only [Nat.add_zero] at cn
                          go_wp2_with (go_at_call 51; refine (isDay_p _ _ _ HD.out).mono ?_; rintro e wn ⟨rfl, rfl⟩)
                          go_roundw
                          case rel => exact ⟨0 + 1, hjl, by simp, NXTN.out HE.out, trivial⟩
                          case measure => simp [intOf] <;> omega
                        · obtain ⟨p, hp⟩ : ∃ p, j = p + 1 := ⟨j - 1, by omega⟩
                          have hi : (j : Int) - 1 = (p : Int) := by omega
                          have hpl : p < xs.length := by omega
                          obtain ⟨z, hz⟩ : ∃ z, xs[p]? = some z := ⟨_, List.getElem?_eq_getElem hpl⟩
                          have hjd : decide ((0 : Int) < (j : Int)) = true := decide_eq_true (by omega)
                          have hpd : decide ((p : Int) < (xs.length : Int)) = true := decide_eq_true (by omega)
                          have HBN := Lib.hid (show befN xs j n = decide (n ≤ z) by rw [hp]; simp [befN, hz])
                          obtain ⟨b4, off4, hA4, _, cz⟩ := rdi_at HRX.out (Below.refl _ _) hz
                          rw [hA3] at hA4
                          injection hA4 with hA4
                          injection hA4 with h6 h7 _
                          subst h6 h7
                          have HP := Lib.hid hp
                          clear hp hz
                          cases hz4 : decide (n ≤ z)
                          · have HE := Lib.hid (show nErr xs j = 0 by rw [HTM.out, HBN.out, hz4]; rfl)
                            go_wp2_with (go_at_call 51; refine (isDay_p _ _ _ HD.out).mono ?_; rintro e wn ⟨rfl, rfl⟩)
                            go_roundw
                            case rel => exact ⟨j + 1, hjl, by simp, NXTN.out HE.out, trivial⟩
                            case measure => simp [intOf] <;> omega
                          · have HE := Lib.hid (FINN.out 8 (by rw [HTM.out, HBN.out, hz4]; rfl) (by decide))
                            go_wp2_with (go_at_call 51; refine (isDay_p _ _ _ HD.out).mono ?_; rintro e wn ⟨rfl, rfl⟩)
                            go_ret
                            exact ⟨ret_int HE.out, HBW.out⟩
                    · have hke := Lib.hid (show j = xs.length by omega)
                      have HE := Lib.hid (show uErr U k = 0 by rw [HCK.out]; unfold ckN; rw [res_end (by rw [← hke.out]; exact HNJ.out)])
                      go_wp2_with fail
                      go_roundw
                      case rel => exact ⟨k + 1, hlt2, by simp, NXT.out HE.out, HBW.out⟩
                      case measure => simp [intOf] <;> omega
              · have hz : slt zn xn = false := by rw [hb1, hb2] at hle; simpa using hle
                clear hle
                have HE := Lib.hid (FIN.out 8 (by rw [HT.out]; simp only [errU, hbu, hz, hn1, he]; rfl) (by decide))
                clear hbu hz
                have HN1 := Lib.hid hn1
                have es := isE_to xt
                rw [he] at es
                clear hn1 he
                go_wp2_with fail
                obtain ⟨g, hg⟩ : ∃ g, g = wr.heap.size := ⟨_, rfl⟩
                have hbx := cur_new wr (.cells #[.string xn, .string xt, .slice xA xs.length xc] 32)
                have hbk := Blk.new wr 32 [.string xn, .string xt, .slice xA xs.length xc]
                generalize wr.alloc (Obj.cells #[.string xn, .string xt, .slice xA xs.length xc] 32) = wn at hbx hbk ⊢
                rw [← hg] at hbk ⊢
                have hgl := hbk.lt
                have HB := Lib.hid (cur_step1 HB0.out hbx)
                have HK := Lib.hid (show Keep w wn [(g, 0, .string xn), (g, 1, .string xt), (g, 2, .slice xA xs.length xc)] from ⟨HB.out, fun c hc => by simp at hc; rcases hc with rfl | rfl | rfl <;> exact ⟨hgl, hbk.cell _⟩⟩)
                have d0 : wn.cell? ⟨g, 0, none⟩ = some (.string xn) := HK.out.get (by simp)
                have d1 : wn.cell? ⟨g, 1, none⟩ = some (.string xt) := HK.out.get (by simp)
                have d2 : wn.cell? ⟨g, 2, none⟩ = some (.slice xA xs.length xc) := HK.out.get (by simp)
                have hgl := HK.out.lt (b := g) (o := 0) (v := .string xn) (by simp)
                have hgb : b < g := by rw [hg]; exact hbl
                have HK2 := Lib.hid (show Keep w wn [(b, off + q * 3, .string zn)] from ⟨HB.out, fun c hc => by simp at hc; rcases hc with rfl; exact ⟨Nat.lt_of_lt_of_le hbl hbx.size, (hbx.cell (p := ⟨b, off + q * 3, none⟩) hbl).trans HCY.out⟩⟩)
                have cy : wn.cell? ⟨b, off + q * 3, none⟩ = some (.string zn) := HK2.out.get (by simp)
                clear hbx hbk hg c0 c1 c2
                go_wp2_with (first
                  | (go_at_call 52; refine (name_p xn _ _ HS.out.1 HN1.out).mono ?_; rintro e wn ⟨rfl, hbn⟩; replace HB := Lib.hid (cur_step1 HB.out hbn); replace HK := Lib.hid (HK.out.to hbn); have d0 : wn.cell? ⟨g, 0, none⟩ = some (.string xn) := HK.out.get (by simp); have d1 : wn.cell? ⟨g, 1, none⟩ = some (.string xt) := HK.out.get (by simp); have d2 : wn.cell? ⟨g, 2, none⟩ = some (.slice xA xs.length xc) := HK.out.get (by simp); have hgl := HK.out.lt (b := g) (o := 0) (v := .string xn) (by simp); replace HK2 := Lib.hid (HK2.out.to hbn); have cy : wn.cell? ⟨b, off + q * 3, none⟩ = some (.string zn) := HK2.out.get (by simp); have hbl2 := HK2.out.lt (b := b) (o := off + q * 3) (v := .string zn) (by simp); clear hbn; clear HN1)
                  | (go_at_call 52; refine (name_p xt _ _ HS.out.2.1 HN2.out).mono ?_; rintro e wn ⟨rfl, hbn⟩; replace HB := Lib.hid (cur_step1 HB.out hbn); replace HK := Lib.hid (HK.out.to hbn); have d0 : wn.cell? ⟨g, 0, none⟩ = some (.string xn) := HK.out.get (by simp); have d1 : wn.cell? ⟨g, 1, none⟩ = some (.string xt) := HK.out.get (by simp); have d2 : wn.cell? ⟨g, 2, none⟩ = some (.slice xA xs.length xc) := HK.out.get (by simp); have hgl := HK.out.lt (b := g) (o := 0) (v := .string xn) (by simp); replace HK2 := Lib.hid (HK2.out.to hbn); have cy : wn.cell? ⟨b, off + q * 3, none⟩ = some (.string zn) := HK2.out.get (by simp); have hbl2 := HK2.out.lt (b := b) (o := off + q * 3) (v := .string zn) (by simp); clear hbn; clear HN2))
                go_quiet (fail)
                go_wp2_with fail
                go_ret
                exact ⟨ret_int HE.out, below_drewN HB.out _⟩
            · have hz : slt zn xn = false := by rw [hb1] at hle; simpa using hle
              clear hle
              have HE := Lib.hid (FIN.out 8 (by rw [HT.out]; simp only [errU, hbu, hz, hn1, he]; rfl) (by decide))
              clear hbu hz
              have HN1 := Lib.hid hn1
              have es := isE_to xt
              rw [he] at es
              clear hn1 he
              go_wp2_with fail
              obtain ⟨g, hg⟩ : ∃ g, g = wr.heap.size := ⟨_, rfl⟩
              have hbx := cur_new wr (.cells #[.string xn, .string xt, .slice xA xs.length xc] 32)
              have hbk := Blk.new wr 32 [.string xn, .string xt, .slice xA xs.length xc]
              generalize wr.alloc (Obj.cells #[.string xn, .string xt, .slice xA xs.length xc] 32) = wn at hbx hbk ⊢
              rw [← hg] at hbk ⊢
              have hgl := hbk.lt
              have HB := Lib.hid (cur_step1 HB0.out hbx)
              have HK := Lib.hid (show Keep w wn [(g, 0, .string xn), (g, 1, .string xt), (g, 2, .slice xA xs.length xc)] from ⟨HB.out, fun c hc => by simp at hc; rcases hc with rfl | rfl | rfl <;> exact ⟨hgl, hbk.cell _⟩⟩)
              have d0 : wn.cell? ⟨g, 0, none⟩ = some (.string xn) := HK.out.get (by simp)
              have d1 : wn.cell? ⟨g, 1, none⟩ = some (.string xt) := HK.out.get (by simp)
              have d2 : wn.cell? ⟨g, 2, none⟩ = some (.slice xA xs.length xc) := HK.out.get (by simp)
              have hgl := HK.out.lt (b := g) (o := 0) (v := .string xn) (by simp)
              have hgb : b < g := by rw [hg]; exact hbl
              have HK2 := Lib.hid (show Keep w wn [(b, off + q * 3, .string zn)] from ⟨HB.out, fun c hc => by simp at hc; rcases hc with rfl; exact ⟨Nat.lt_of_lt_of_le hbl hbx.size, (hbx.cell (p := ⟨b, off + q * 3, none⟩) hbl).trans HCY.out⟩⟩)
              have cy : wn.cell? ⟨b, off + q * 3, none⟩ = some (.string zn) := HK2.out.get (by simp)
              clear hbx hbk hg c0 c1 c2
              go_wp2_with (first
                | (go_at_call 52; refine (name_p xn _ _ HS.out.1 HN1.out).mono ?_; rintro e wn ⟨rfl, hbn⟩; replace HB := Lib.hid (cur_step1 HB.out hbn); replace HK := Lib.hid (HK.out.to hbn); have d0 : wn.cell? ⟨g, 0, none⟩ = some (.string xn) := HK.out.get (by simp); have d1 : wn.cell? ⟨g, 1, none⟩ = some (.string xt) := HK.out.get (by simp); have d2 : wn.cell? ⟨g, 2, none⟩ = some (.slice xA xs.length xc) := HK.out.get (by simp); have hgl := HK.out.lt (b := g) (o := 0) (v := .string xn) (by simp); replace HK2 := Lib.hid (HK2.out.to hbn); have cy : wn.cell? ⟨b, off + q * 3, none⟩ = some (.string zn) := HK2.out.get (by simp); have hbl2 := HK2.out.lt (b := b) (o := off + q * 3) (v := .string zn) (by simp); clear hbn; clear HN1)
                | (go_at_call 52; refine (name_p xt _ _ HS.out.2.1 HN2.out).mono ?_; rintro e wn ⟨rfl, hbn⟩; replace HB := Lib.hid (cur_step1 HB.out hbn); replace HK := Lib.hid (HK.out.to hbn); have d0 : wn.cell? ⟨g, 0, none⟩ = some (.string xn) := HK.out.get (by simp); have d1 : wn.cell? ⟨g, 1, none⟩ = some (.string xt) := HK.out.get (by simp); have d2 : wn.cell? ⟨g, 2, none⟩ = some (.slice xA xs.length xc) := HK.out.get (by simp); have hgl := HK.out.lt (b := g) (o := 0) (v := .string xn) (by simp); replace HK2 := Lib.hid (HK2.out.to hbn); have cy : wn.cell? ⟨b, off + q * 3, none⟩ = some (.string zn) := HK2.out.get (by simp); have hbl2 := HK2.out.lt (b := b) (o := off + q * 3) (v := .string zn) (by simp); clear hbn; clear HN2))
              go_quiet (fail)
              go_wp2_with fail
              go_ret
              exact ⟨ret_int HE.out, below_drewN HB.out _⟩
    · have hke := Lib.hid (show k = U.length by omega)
      have HE := Lib.hid (show (0 : Int) = r by rw [← HV.out]; unfold ckU; rw [res_end (by rw [← hke.out]; exact HNO.out)])
      go_wp2_with fail
      go_ret
      exact ⟨ret_int HE.out, HB0.out⟩
theorem cu_r (A : Option Addr) (c : Nat) (U : List Ump) (k : Nat) (x : Ump) (r : Int) (w : World) (hl : U.length ≤ 1000) (hr : UmR w A U) (hx : U[k]? = some x) (hsz : UmS x) (hv : errU U k x = r) :
    Calls Try.prog 30 #[.slice A U.length c, .int .i64 k] w fun e w' => e = .returned (.int .i64 r) ∧ Below w.heap.size w w' := by
  obtain ⟨xn, xt, xs, xA, xc⟩ := x
  have HV := Lib.hid hv
  have HR := Lib.hid hr.rd
  have HS := Lib.hid hsz
  have HB0 := Lib.hid (Below.refl w.heap.size w)
  have hlt2 : k < U.length := (List.getElem?_eq_some_iff.1 hx).1
  obtain ⟨b, off, rfl, hbb, hcl⟩ := hr.rd.at_ HB0.out hx
  obtain ⟨c0, c1, c2⟩ := um_cells hcl
  dsimp only at c0 c1 c2
  have HT := Lib.hid (show uErr U k = errU U k ⟨xn, xt, xs, xA, xc⟩ by simp [uErr, hx])
  have HDS := Lib.hid (show Rd iE 1 w w.heap.size xA xs from hr.ds _ (List.mem_of_getElem? hx))
  have hxl : xs.length ≤ 1000000 := HS.out.2.2
  have hbl := hbb
  have FIN := Lib.hid (show ∀ q : Int, uErr U k = q → q ≠ 0 → q = r from fun q h1 _ => by rw [← h1, HT.out, HV.out])
  have HEQ0 := Lib.hid (show ∀ q : Int, uErr U k = q → q = r from fun q h1 => by rw [← h1, HT.out, HV.out])
  clear hcl hx hr hv hsz
  go_enter Try.func30, Try.ntmps30
  cases hn1 : nameB xn
  · have HE := Lib.hid (FIN.out 5 (by rw [HT.out]; simp only [errU, hn1]; rfl) (by decide))
    have HN1 := Lib.hid hn1
    clear hn1
    go_wp2_with fail
    obtain ⟨g, hg⟩ : ∃ g, g = w.heap.size := ⟨_, rfl⟩
    have hbx := cur_new w (.cells #[.string xn, .string xt, .slice xA xs.length xc] 32)
    have hbk := Blk.new w 32 [.string xn, .string xt, .slice xA xs.length xc]
    generalize w.alloc (Obj.cells #[.string xn, .string xt, .slice xA xs.length xc] 32) = wn at hbx hbk ⊢
    rw [← hg] at hbk ⊢
    have hgl := hbk.lt
    have HB := Lib.hid (cur_step1 HB0.out hbx)
    have HK := Lib.hid (show Keep w wn [(g, 0, .string xn), (g, 1, .string xt), (g, 2, .slice xA xs.length xc)] from ⟨HB.out, fun c hc => by simp at hc; rcases hc with rfl | rfl | rfl <;> exact ⟨hgl, hbk.cell _⟩⟩)
    have d0 : wn.cell? ⟨g, 0, none⟩ = some (.string xn) := HK.out.get (by simp)
    have d1 : wn.cell? ⟨g, 1, none⟩ = some (.string xt) := HK.out.get (by simp)
    have d2 : wn.cell? ⟨g, 2, none⟩ = some (.slice xA xs.length xc) := HK.out.get (by simp)
    have hgl := HK.out.lt (b := g) (o := 0) (v := .string xn) (by simp)
    have hgb : b < g := by rw [hg]; exact hbl
    clear hbx hbk hg c0 c1 c2
    go_wp2_with (first
      | (go_at_call 54; refine (name_r xn _ _ HS.out.1 HN1.out).mono ?_; rintro e wn ⟨rfl, hbn⟩; replace HB := Lib.hid (cur_step1 HB.out hbn); replace HK := Lib.hid (HK.out.to hbn); have d0 : wn.cell? ⟨g, 0, none⟩ = some (.string xn) := HK.out.get (by simp); have d1 : wn.cell? ⟨g, 1, none⟩ = some (.string xt) := HK.out.get (by simp); have d2 : wn.cell? ⟨g, 2, none⟩ = some (.slice xA xs.length xc) := HK.out.get (by simp); have hgl := HK.out.lt (b := g) (o := 0) (v := .string xn) (by simp); clear hbn; clear HN1)
      | (go_at_call 54; refine (name_r xt _ _ HS.out.2.1 HN2.out).mono ?_; rintro e wn ⟨rfl, hbn⟩; replace HB := Lib.hid (cur_step1 HB.out hbn); replace HK := Lib.hid (HK.out.to hbn); have d0 : wn.cell? ⟨g, 0, none⟩ = some (.string xn) := HK.out.get (by simp); have d1 : wn.cell? ⟨g, 1, none⟩ = some (.string xt) := HK.out.get (by simp); have d2 : wn.cell? ⟨g, 2, none⟩ = some (.slice xA xs.length xc) := HK.out.get (by simp); have hgl := HK.out.lt (b := g) (o := 0) (v := .string xn) (by simp); clear hbn; clear HN2))
    go_ret
    exact ⟨ret_int HE.out, HB.out⟩
  · cases he : isE xt
    · cases hn2 : nameB xt
      · have HE := Lib.hid (FIN.out 5 (by rw [HT.out]; simp only [errU, hn1, he, hn2]; rfl) (by decide))
        have HN1 := Lib.hid hn1
        have HN2 := Lib.hid hn2
        have es := isE_to xt
        rw [he] at es
        clear hn1 hn2 he
        go_wp2_with fail
        obtain ⟨g, hg⟩ : ∃ g, g = w.heap.size := ⟨_, rfl⟩
        have hbx := cur_new w (.cells #[.string xn, .string xt, .slice xA xs.length xc] 32)
        have hbk := Blk.new w 32 [.string xn, .string xt, .slice xA xs.length xc]
        generalize w.alloc (Obj.cells #[.string xn, .string xt, .slice xA xs.length xc] 32) = wn at hbx hbk ⊢
        rw [← hg] at hbk ⊢
        have hgl := hbk.lt
        have HB := Lib.hid (cur_step1 HB0.out hbx)
        have HK := Lib.hid (show Keep w wn [(g, 0, .string xn), (g, 1, .string xt), (g, 2, .slice xA xs.length xc)] from ⟨HB.out, fun c hc => by simp at hc; rcases hc with rfl | rfl | rfl <;> exact ⟨hgl, hbk.cell _⟩⟩)
        have d0 : wn.cell? ⟨g, 0, none⟩ = some (.string xn) := HK.out.get (by simp)
        have d1 : wn.cell? ⟨g, 1, none⟩ = some (.string xt) := HK.out.get (by simp)
        have d2 : wn.cell? ⟨g, 2, none⟩ = some (.slice xA xs.length xc) := HK.out.get (by simp)
        have hgl := HK.out.lt (b := g) (o := 0) (v := .string xn) (by simp)
        have hgb : b < g := by rw [hg]; exact hbl
        clear hbx hbk hg c0 c1 c2
        go_wp2_with (first
          | (go_at_call 54; refine (name_r xn _ _ HS.out.1 HN1.out).mono ?_; rintro e wn ⟨rfl, hbn⟩; replace HB := Lib.hid (cur_step1 HB.out hbn); replace HK := Lib.hid (HK.out.to hbn); have d0 : wn.cell? ⟨g, 0, none⟩ = some (.string xn) := HK.out.get (by simp); have d1 : wn.cell? ⟨g, 1, none⟩ = some (.string xt) := HK.out.get (by simp); have d2 : wn.cell? ⟨g, 2, none⟩ = some (.slice xA xs.length xc) := HK.out.get (by simp); have hgl := HK.out.lt (b := g) (o := 0) (v := .string xn) (by simp); clear hbn; clear HN1)
          | (go_at_call 54; refine (name_r xt _ _ HS.out.2.1 HN2.out).mono ?_; rintro e wn ⟨rfl, hbn⟩; replace HB := Lib.hid (cur_step1 HB.out hbn); replace HK := Lib.hid (HK.out.to hbn); have d0 : wn.cell? ⟨g, 0, none⟩ = some (.string xn) := HK.out.get (by simp); have d1 : wn.cell? ⟨g, 1, none⟩ = some (.string xt) := HK.out.get (by simp); have d2 : wn.cell? ⟨g, 2, none⟩ = some (.slice xA xs.length xc) := HK.out.get (by simp); have hgl := HK.out.lt (b := g) (o := 0) (v := .string xn) (by simp); clear hbn; clear HN2))
        go_ret
        exact ⟨ret_int HE.out, HB.out⟩
      · rcases Nat.eq_zero_or_pos k with hk0 | hk0
        · subst hk0
          have HREST := Lib.hid (show uErr U 0 = if 400 < xs.length then 9 else ckN xs by rw [HT.out]; simp only [errU, befU, hn1, he, hn2]; rfl)
          simp only [Nat.zero_mul, Nat.add_zero] at c0 c1 c2
          have HN1 := Lib.hid hn1
          have HN2 := Lib.hid hn2
          have es := isE_to xt
          rw [he] at es
          clear hn1 hn2 he
          go_wp2_with fail
          obtain ⟨g, hg⟩ : ∃ g, g = w.heap.size := ⟨_, rfl⟩
          have hbx := cur_new w (.cells #[.string xn, .string xt, .slice xA xs.length xc] 32)
          have hbk := Blk.new w 32 [.string xn, .string xt, .slice xA xs.length xc]
          generalize w.alloc (Obj.cells #[.string xn, .string xt, .slice xA xs.length xc] 32) = wn at hbx hbk ⊢
          rw [← hg] at hbk ⊢
          have hgl := hbk.lt
          have HB := Lib.hid (cur_step1 HB0.out hbx)
          have HK := Lib.hid (show Keep w wn [(g, 0, .string xn), (g, 1, .string xt), (g, 2, .slice xA xs.length xc)] from ⟨HB.out, fun c hc => by simp at hc; rcases hc with rfl | rfl | rfl <;> exact ⟨hgl, hbk.cell _⟩⟩)
          have d0 : wn.cell? ⟨g, 0, none⟩ = some (.string xn) := HK.out.get (by simp)
          have d1 : wn.cell? ⟨g, 1, none⟩ = some (.string xt) := HK.out.get (by simp)
          have d2 : wn.cell? ⟨g, 2, none⟩ = some (.slice xA xs.length xc) := HK.out.get (by simp)
          have hgl := HK.out.lt (b := g) (o := 0) (v := .string xn) (by simp)
          have hgb : b < g := by rw [hg]; exact hbl
          clear hbx hbk hg c0 c1 c2
          go_wp2_with (first
            | (go_at_call 54; refine (name_r xn _ _ HS.out.1 HN1.out).mono ?_; rintro e wn ⟨rfl, hbn⟩; replace HB := Lib.hid (cur_step1 HB.out hbn); replace HK := Lib.hid (HK.out.to hbn); have d0 : wn.cell? ⟨g, 0, none⟩ = some (.string xn) := HK.out.get (by simp); have d1 : wn.cell? ⟨g, 1, none⟩ = some (.string xt) := HK.out.get (by simp); have d2 : wn.cell? ⟨g, 2, none⟩ = some (.slice xA xs.length xc) := HK.out.get (by simp); have hgl := HK.out.lt (b := g) (o := 0) (v := .string xn) (by simp); clear hbn; clear HN1)
            | (go_at_call 54; refine (name_r xt _ _ HS.out.2.1 HN2.out).mono ?_; rintro e wn ⟨rfl, hbn⟩; replace HB := Lib.hid (cur_step1 HB.out hbn); replace HK := Lib.hid (HK.out.to hbn); have d0 : wn.cell? ⟨g, 0, none⟩ = some (.string xn) := HK.out.get (by simp); have d1 : wn.cell? ⟨g, 1, none⟩ = some (.string xt) := HK.out.get (by simp); have d2 : wn.cell? ⟨g, 2, none⟩ = some (.slice xA xs.length xc) := HK.out.get (by simp); have hgl := HK.out.lt (b := g) (o := 0) (v := .string xn) (by simp); clear hbn; clear HN2))
          go_quiet (fail)
          rename Nat => nq
          obtain ⟨W, hW⟩ : ∃ W, wn.drewN nq = W := ⟨_, rfl⟩
          have HBW := Lib.hid (show Below w.heap.size w W by rw [← hW]; exact below_drewN HB.out _)
          have d2 : W.cell? ⟨g, 2, none⟩ = some (.slice xA xs.length xc) := by rw [← hW]; exact d2
          have hgl : g < W.heap.size := by rw [← hW]; exact hgl
          rw [hW]
          clear hW HK HB d0 d1
          by_cases hl4 : 400 < xs.length
          · have hl5 : decide ((400 : Int) < (xs.length : Int)) = true := decide_eq_true (by omega)
            have HE := Lib.hid (FIN.out 9 (by rw [HREST.out, if_pos hl4]) (by decide))
            go_wp2_with fail
            go_ret
            exact ⟨ret_int HE.out, HBW.out⟩
          · have hl5 : decide ((400 : Int) < (xs.length : Int)) = false := decide_eq_false (by omega)
            have HCK := Lib.hid (show uErr U 0 = ckN xs by rw [HREST.out, if_neg hl4])
            have HRX := Lib.hid (HDS.out.to HBW.out)
            go_wp2_with fail
            go_loopw [50] (fun i wr2 => ∃ j : Nat, j ≤ xs.length ∧ i = .int .i64 j ∧ (∀ t, t < j → nErr xs t = 0) ∧ W = wr2) (fun i _ => xs.length - (intOf i).toNat)
            case atStart => exact ⟨0, by omega, rfl, by intro t h; omega, rfl⟩
            case round =>
              obtain ⟨j, hj, rfl, hnj, rfl⟩ := hrel
              have HNJ := Lib.hid hnj
              clear hnj
              by_cases hjl : j < xs.length
              · obtain ⟨n, hn⟩ : ∃ n, xs[j]? = some n := ⟨_, List.getElem?_eq_getElem hjl⟩
                obtain ⟨b3, off3, hA3, hbb3, cn⟩ := rdi_at HRX.out (Below.refl _ _) hn
                have HTN := Lib.hid (show nErr xs j = if isDayB n = false then 2 else if befN xs j n = true then 8 else 0 by simp [nErr, hn])
                have FINN := Lib.hid (show ∀ q : Int, nErr xs j = q → q ≠ 0 → q = r from fun q h1 h2 => FIN.out q (by rw [HCK.out]; unfold ckN; rw [res_of HNJ.out hjl (by rw [h1]; exact h2), h1]) h2)
                have NXTN := Lib.hid (show nErr xs j = 0 → ∀ t, t < j + 1 → nErr xs t = 0 from fun h t ht => by
                  by_cases e : t = j
                  · rw [e]; exact h
                  · exact HNJ.out t (by omega))
                clear hn
                rw [hA3] at d2
                rw [hA3]
                cases hd : isDayB n
                · have HE := Lib.hid (FINN.out 2 (by rw [HTN.out, if_pos hd]) (by decide))
                  have HD := Lib.hid hd
                  clear hd
                  go_wp2_with (go_at_call 53; refine (day_r _ _ _ HD.out).mono ?_; rintro e wn ⟨rfl, rfl⟩)
                  go_ret
                  exact ⟨ret_int HE.out, HBW.out⟩
                · have HD := Lib.hid hd
                  have HTM := Lib.hid (show nErr xs j = if befN xs j n = true then 8 else 0 by rw [HTN.out, if_neg (by rw [hd]; decide)])
                  clear hd
                  rcases Nat.eq_zero_or_pos j with hj0 | hj0
                  · subst hj0
                    have HE := Lib.hid (show nErr xs 0 = 0 by rw [HTM.out]; rfl)
                    simp only [Nat.add_zero] at cn
                    go_wp2_with (go_at_call 53; refine (day_r _ _ _ HD.out).mono ?_; rintro e wn ⟨rfl, rfl⟩)
                    go_roundw
                    case rel => exact ⟨0 + 1, hjl, by simp, NXTN.out HE.out, trivial⟩
                    case measure => simp [intOf] <;> omega
                  · obtain ⟨p, hp⟩ : ∃ p, j = p + 1 := ⟨j - 1, by omega⟩
                    have hi : (j : Int) - 1 = (p : Int) := by omega
                    have hpl : p < xs.length := by omega
                    obtain ⟨z, hz⟩ : ∃ z, xs[p]? = some z := ⟨_, List.getElem?_eq_getElem hpl⟩
                    have hjd : decide ((0 : Int) < (j : Int)) = true := decide_eq_true (by omega)
                    have hpd : decide ((p : Int) < (xs.length : Int)) = true := decide_eq_true (by omega)
                    have HBN := Lib.hid (show befN xs j n = decide (n ≤ z) by rw [hp]; simp [befN, hz])
                    obtain ⟨b4, off4, hA4, _, cz⟩ := rdi_at HRX.out (Below.refl _ _) hz
                    rw [hA3] at hA4
                    injection hA4 with hA4
                    injection hA4 with h6 h7 _
                    subst h6 h7
                    have HP := Lib.hid hp
                    clear hp hz
                    cases hz4 : decide (n ≤ z)
                    · have HE := Lib.hid (show nErr xs j = 0 by rw [HTM.out, HBN.out, hz4]; rfl)
                      go_wp2_with (go_at_call 53; refine (day_r _ _ _ HD.out).mono ?_; rintro e wn ⟨rfl, rfl⟩)
                      go_roundw
                      case rel => exact ⟨j + 1, hjl, by simp, NXTN.out HE.out, trivial⟩
                      case measure => simp [intOf] <;> omega
                    · have HE := Lib.hid (FINN.out 8 (by rw [HTM.out, HBN.out, hz4]; rfl) (by decide))
                      go_wp2_with (go_at_call 53; refine (day_r _ _ _ HD.out).mono ?_; rintro e wn ⟨rfl, rfl⟩)
                      go_ret
                      exact ⟨ret_int HE.out, HBW.out⟩
              · have hke := Lib.hid (show j = xs.length by omega)
                have HE := Lib.hid (show uErr U 0 = 0 by rw [HCK.out]; unfold ckN; rw [res_end (by rw [← hke.out]; exact HNJ.out)])
                go_wp2_with fail
                go_ret
                exact ⟨ret_int (HEQ0.out 0 HE.out), HBW.out⟩
        · obtain ⟨q, hq⟩ : ∃ q, k = q + 1 := ⟨k - 1, by omega⟩
          have hi : (k : Int) - 1 = (q : Int) := by omega
          have hql : q < U.length := by omega
          obtain ⟨⟨zn, zt, zs, zA, zc⟩, hy⟩ : ∃ y, U[q]? = some y := ⟨_, List.getElem?_eq_getElem hql⟩
          have hkd : decide ((0 : Int) < (k : Int)) = true := decide_eq_true (by omega)
          have hqd : decide ((q : Int) < (U.length : Int)) = true := decide_eq_true (by omega)
          have hbu : befU U k ⟨xn, xt, xs, xA, xc⟩ = !slt zn xn := by rw [hq]; simp [befU, hy]
          obtain ⟨b5, off5, h5, _, hcl5⟩ := HR.out.at_ HB0.out hy
          injection h5 with h5
          injection h5 with h6 h7 _
          subst h6 h7
          obtain ⟨cy, _, _⟩ := um_cells hcl5
          have HCY := Lib.hid cy
          have HQ := Lib.hid hq
          have hle := leq_eq zn.toList xn.toList
          rw [slt_to zn xn] at hle
          clear hq hcl5 hy cy
          cases hb1 : Op.bytesLess xn.toList zn.toList
          · cases hb2 : (xn.toList == zn.toList)
            · have hz : slt zn xn = true := by rw [hb1, hb2] at hle; simpa using hle
              clear hle
              have HREST := Lib.hid (show uErr U k = if 400 < xs.length then 9 else ckN xs by rw [HT.out]; simp only [errU, hbu, hz, hn1, he, hn2]; rfl)
              clear hbu hz
              have HN1 := Lib.hid hn1
              have HN2 := Lib.hid hn2
              have es := isE_to xt
              rw [he] at es
              clear hn1 hn2 he
              go_wp2_with fail
              obtain ⟨g, hg⟩ : ∃ g, g = w.heap.size := ⟨_, rfl⟩
              have hbx := cur_new w (.cells #[.string xn, .string xt, .slice xA xs.length xc] 32)
              have hbk := Blk.new w 32 [.string xn, .string xt, .slice xA xs.length xc]
              generalize w.alloc (Obj.cells #[.string xn, .string xt, .slice xA xs.length xc] 32) = wn at hbx hbk ⊢
              rw [← hg] at hbk ⊢
              have hgl := hbk.lt
              have HB := Lib.hid (cur_step1 HB0.out hbx)
              have HK := Lib.hid (show Keep w wn [(g, 0, .string xn), (g, 1, .string xt), (g, 2, .slice xA xs.length xc)] from ⟨HB.out, fun c hc => by simp at hc; rcases hc with rfl | rfl | rfl <;> exact ⟨hgl, hbk.cell _⟩⟩)
              have d0 : wn.cell? ⟨g, 0, none⟩ = some (.string xn) := HK.out.get (by simp)
              have d1 : wn.cell? ⟨g, 1, none⟩ = some (.string xt) := HK.out.get (by simp)
              have d2 : wn.cell? ⟨g, 2, none⟩ = some (.slice xA xs.length xc) := HK.out.get (by simp)
              have hgl := HK.out.lt (b := g) (o := 0) (v := .string xn) (by simp)
              have hgb : b < g := by rw [hg]; exact hbl
              have HK2 := Lib.hid (show Keep w wn [(b, off + q * 3, .string zn)] from ⟨HB.out, fun c hc => by simp at hc; rcases hc with rfl; exact ⟨Nat.lt_of_lt_of_le hbl hbx.size, (hbx.cell (p := ⟨b, off + q * 3, none⟩) hbl).trans HCY.out⟩⟩)
              have cy : wn.cell? ⟨b, off + q * 3, none⟩ = some (.string zn) := HK2.out.get (by simp)
              clear hbx hbk hg c0 c1 c2
              go_wp2_with (first
                | (go_at_call 54; refine (name_r xn _ _ HS.out.1 HN1.out).mono ?_; rintro e wn ⟨rfl, hbn⟩; replace HB := Lib.hid (cur_step1 HB.out hbn); replace HK := Lib.hid (HK.out.to hbn); have d0 : wn.cell? ⟨g, 0, none⟩ = some (.string xn) := HK.out.get (by simp); have d1 : wn.cell? ⟨g, 1, none⟩ = some (.string xt) := HK.out.get (by simp); have d2 : wn.cell? ⟨g, 2, none⟩ = some (.slice xA xs.length xc) := HK.out.get (by simp); have hgl := HK.out.lt (b := g) (o := 0) (v := .string xn) (by simp); replace HK2 := Lib.hid (HK2.out.to hbn); have cy : wn.cell? ⟨b, off + q * 3, none⟩ = some (.string zn) := HK2.out.get (by simp); have hbl2 := HK2.out.lt (b := b) (o := off + q * 3) (v := .string zn) (by simp); clear hbn; clear HN1)
                | (go_at_call 54; refine (name_r xt _ _ HS.out.2.1 HN2.out).mono ?_; rintro e wn ⟨rfl, hbn⟩; replace HB := Lib.hid (cur_step1 HB.out hbn); replace HK := Lib.hid (HK.out.to hbn); have d0 : wn.cell? ⟨g, 0, none⟩ = some (.string xn) := HK.out.get (by simp); have d1 : wn.cell? ⟨g, 1, none⟩ = some (.string xt) := HK.out.get (by simp); have d2 : wn.cell? ⟨g, 2, none⟩ = some (.slice xA xs.length xc) := HK.out.get (by simp); have hgl := HK.out.lt (b := g) (o := 0) (v := .string xn) (by simp); replace HK2 := Lib.hid (HK2.out.to hbn); have cy : wn.cell? ⟨b, off + q * 3, none⟩ = some (.string zn) := HK2.out.get (by simp); have hbl2 := HK2.out.lt (b := b) (o := off + q * 3) (v := .string zn) (by simp); clear hbn; clear HN2))
              go_quiet (fail)
              rename Nat => nq
              obtain ⟨W, hW⟩ : ∃ W, wn.drewN nq = W := ⟨_, rfl⟩
              have HBW := Lib.hid (show Below w.heap.size w W by rw [← hW]; exact below_drewN HB.out _)
              have d2 : W.cell? ⟨g, 2, none⟩ = some (.slice xA xs.length xc) := by rw [← hW]; exact d2
              have hgl : g < W.heap.size := by rw [← hW]; exact hgl
              rw [hW]
              clear hW HK HB d0 d1
              by_cases hl4 : 400 < xs.length
              · have hl5 : decide ((400 : Int) < (xs.length : Int)) = true := decide_eq_true (by omega)
                have HE := Lib.hid (FIN.out 9 (by rw [HREST.out, if_pos hl4]) (by decide))
                go_wp2_with fail
                go_ret
                exact ⟨ret_int HE.out, HBW.out⟩
              · have hl5 : decide ((400 : Int) < (xs.length : Int)) = false := decide_eq_false (by omega)
                have HCK := Lib.hid (show uErr U k = ckN xs by rw [HREST.out, if_neg hl4])
                have HRX := Lib.hid (HDS.out.to HBW.out)
                go_wp2_with fail
                go_loopw [50] (fun i wr2 => ∃ j : Nat, j ≤ xs.length ∧ i = .int .i64 j ∧ (∀ t, t < j → nErr xs t = 0) ∧ W = wr2) (fun i _ => xs.length - (intOf i).toNat)
                case atStart => exact ⟨0, by omega, rfl, by intro t h; omega, rfl⟩
                case round =>
                  obtain ⟨j, hj, rfl, hnj, rfl⟩ := hrel
                  have HNJ := Lib.hid hnj
                  clear hnj
                  by_cases hjl : j < xs.length
                  · obtain ⟨n, hn⟩ : ∃ n, xs[j]? = some n := ⟨_, List.getElem?_eq_getElem hjl⟩
                    obtain ⟨b3, off3, hA3, hbb3, cn⟩ := rdi_at HRX.out (Below.refl _ _) hn
                    have HTN := Lib.hid (show nErr xs j = if isDayB n = false then 2 else if befN xs j n = true then 8 else 0 by simp [nErr, hn])
                    have FINN := Lib.hid (show ∀ q : Int, nErr xs j = q → q ≠ 0 → q = r from fun q h1 h2 => FIN.out q (by rw [HCK.out]; unfold ckN; rw [res_of HNJ.out hjl (by rw [h1]; exact h2), h1]) h2)
                    have NXTN := Lib.hid (show nErr xs j = 0 → ∀ t, t < j + 1 → nErr xs t = 0 from fun h t ht => by
                      by_cases e : t = j
                      · rw [e]; exact h
                      · exact HNJ.out t (by omega))
                    clear hn
                    rw [hA3] at d2
                    rw [hA3]
                    cases hd : isDayB n
                    · have HE := Lib.hid (FINN.out 2 (by rw [HTN.out, if_pos hd]) (by decide))
                      have HD := Lib.hid hd
                      clear hd
                      go_wp2_with (go_at_call 53; refine (day_r _ _ _ HD.out).mono ?_; rintro e wn ⟨rfl, rfl⟩)
                      go_ret
                      exact ⟨ret_int HE.out, HBW.out⟩
                    · have HD := Lib.hid hd
                      have HTM := Lib.hid (show nErr xs j = if befN xs j n = true then 8 else 0 by rw [HTN.out, if_neg (by rw [hd]; decide)])
                      clear hd
                      rcases Nat.eq_zero_or_pos j with hj0 | hj0
                      · subst hj0
                        have HE := Lib.hid (show nErr xs 0 = 0 by rw [HTM.out]; rfl)
                        simp only [Nat.add_zero] at cn
                        go_wp2_with (go_at_call 53; refine (day_r _ _ _ HD.out).mono ?_; rintro e wn ⟨rfl, rfl⟩)
                        go_roundw
                        case rel => exact ⟨0 + 1, hjl, by simp, NXTN.out HE.out, trivial⟩
                        case measure => simp [intOf] <;> omega
                      · obtain ⟨p, hp⟩ : ∃ p, j = p + 1 := ⟨j - 1, by omega⟩
                        have hi : (j : Int) - 1 = (p : Int) := by omega
                        have hpl : p < xs.length := by omega
                        obtain ⟨z, hz⟩ : ∃ z, xs[p]? = some z := ⟨_, List.getElem?_eq_getElem hpl⟩
                        have hjd : decide ((0 : Int) < (j : Int)) = true := decide_eq_true (by omega)
                        have hpd : decide ((p : Int) < (xs.length : Int)) = true := decide_eq_true (by omega)
                        have HBN := Lib.hid (show befN xs j n = decide (n ≤ z) by rw [hp]; simp [befN, hz])
                        obtain ⟨b4, off4, hA4, _, cz⟩ := rdi_at HRX.out (Below.refl _ _) hz
                        rw [hA3] at hA4
                        injection hA4 with hA4
                        injection hA4 with h6 h7 _
                        subst h6 h7
                        have HP := Lib.hid hp
                        clear hp hz
                        cases hz4 : decide (n ≤ z)
                        · have HE := Lib.hid (show nErr xs j = 0 by rw [HTM.out, HBN.out, hz4]; rfl)
                          go_wp2_with (go_at_call 53; refine (day_r _ _ _ HD.out).mono ?_; rintro e wn ⟨rfl, rfl⟩)
                          go_roundw
                          case rel => exact ⟨j + 1, hjl, by simp, NXTN.out HE.out, trivial⟩
                          case measure => simp [intOf] <;> omega
                        · have HE := Lib.hid (FINN.out 8 (by rw [HTM.out, HBN.out, hz4]; rfl) (by decide))
                          go_wp2_with (go_at_call 53; refine (day_r _ _ _ HD.out).mono ?_; rintro e wn ⟨rfl, rfl⟩)
                          go_ret
                          exact ⟨ret_int HE.out, HBW.out⟩
                  · have hke := Lib.hid (show j = xs.length by omega)
                    have HE := Lib.hid (show uErr U k = 0 by rw [HCK.out]; unfold ckN; rw [res_end (by rw [← hke.out]; exact HNJ.out)])
                    go_wp2_with fail
                    go_ret
                    exact ⟨ret_int (HEQ0.out 0 HE.out), HBW.out⟩
            · have hz : slt zn xn = false := by rw [hb1, hb2] at hle; simpa using hle
              clear hle
              have HE := Lib.hid (FIN.out 8 (by rw [HT.out]; simp only [errU, hbu, hz, hn1, he, hn2]; rfl) (by decide))
              clear hbu hz
              have HN1 := Lib.hid hn1
              have HN2 := Lib.hid hn2
              have es := isE_to xt
              rw [he] at es
              clear hn1 hn2 he
              go_wp2_with fail
              obtain ⟨g, hg⟩ : ∃ g, g = w.heap.size := ⟨_, rfl⟩
              have hbx := cur_new w (.cells #[.string xn, .string xt, .slice xA xs.length xc] 32)
              have hbk := Blk.new w 32 [.string xn, .string xt, .slice xA xs.length xc]
              generalize w.alloc (Obj.cells #[.string xn, .string xt, .slice xA xs.length xc] 32) = wn at hbx hbk ⊢
              rw [← hg] at hbk ⊢
              have hgl := hbk.lt
              have HB := Lib.hid (cur_step1 HB0.out hbx)
              have HK := Lib.hid (show Keep w wn [(g, 0, .string xn), (g, 1, .string xt), (g, 2, .slice xA xs.length xc)] from ⟨HB.out, fun c hc => by simp at hc; rcases hc with rfl | rfl | rfl <;> exact ⟨hgl, hbk.cell _⟩⟩)
              have d0 : wn.cell? ⟨g, 0, none⟩ = some (.string xn) := HK.out.get (by simp)
              have d1 : wn.cell? ⟨g, 1, none⟩ = some (.string xt) := HK.out.get (by simp)
              have d2 : wn.cell? ⟨g, 2, none⟩ = some (.slice xA xs.length xc) := HK.out.get (by simp)
              have hgl := HK.out.lt (b := g) (o := 0) (v := .string xn) (by simp)
              have hgb : b < g := by rw [hg]; exact hbl
              have HK2 := Lib.hid (show Keep w wn [(b, off + q * 3, .string zn)] from ⟨HB.out, fun c hc => by simp at hc; rcases hc with rfl; exact ⟨Nat.lt_of_lt_of_le hbl hbx.size, (hbx.cell (p := ⟨b, off + q * 3, none⟩) hbl).trans HCY.out⟩⟩)
              have cy : wn.cell? ⟨b, off + q * 3, none⟩ = some (.string zn) := HK2.out.get (by simp)
              clear hbx hbk hg c0 c1 c2
              go_wp2_with (first
                | (go_at_call 54; refine (name_r xn _ _ HS.out.1 HN1.out).mono ?_; rintro e wn ⟨rfl, hbn⟩; replace HB := Lib.hid (cur_step1 HB.out hbn); replace HK := Lib.hid (HK.out.to hbn); have d0 : wn.cell? ⟨g, 0, none⟩ = some (.string xn) := HK.out.get (by simp); have d1 : wn.cell? ⟨g, 1, none⟩ = some (.string xt) := HK.out.get (by simp); have d2 : wn.cell? ⟨g, 2, none⟩ = some (.slice xA xs.length xc) := HK.out.get (by simp); have hgl := HK.out.lt (b := g) (o := 0) (v := .string xn) (by simp); replace HK2 := Lib.hid (HK2.out.to hbn); have cy : wn.cell? ⟨b, off + q * 3, none⟩ = some (.string zn) := HK2.out.get (by simp); have hbl2 := HK2.out.lt (b := b) (o := off + q * 3) (v := .string zn) (by simp); clear hbn; clear HN1)
                | (go_at_call 54; refine (name_r xt _ _ HS.out.2.1 HN2.out).mono ?_; rintro e wn ⟨rfl, hbn⟩; replace HB := Lib.hid (cur_step1 HB.out hbn); replace HK := Lib.hid (HK.out.to hbn); have d0 : wn.cell? ⟨g, 0, none⟩ = some (.string xn) := HK.out.get (by simp); have d1 : wn.cell? ⟨g, 1, none⟩ = some (.string xt) := HK.out.get (by simp); have d2 : wn.cell? ⟨g, 2, none⟩ = some (.slice xA xs.length xc) := HK.out.get (by simp); have hgl := HK.out.lt (b := g) (o := 0) (v := .string xn) (by simp); replace HK2 := Lib.hid (HK2.out.to hbn); have cy : wn.cell? ⟨b, off + q * 3, none⟩ = some (.string zn) := HK2.out.get (by simp); have hbl2 := HK2.out.lt (b := b) (o := off + q * 3) (v := .string zn) (by simp); clear hbn; clear HN2))
              go_quiet (fail)
              go_wp2_with fail
              go_ret
              exact ⟨ret_int HE.out, below_drewN HB.out _⟩
          · have hz : slt zn xn = false := by rw [hb1] at hle; simpa using hle
            clear hle
            have HE := Lib.hid (FIN.out 8 (by rw [HT.out]; simp only [errU, hbu, hz, hn1, he, hn2]; rfl) (by decide))
            clear hbu hz
            have HN1 := Lib.hid hn1
            have HN2 := Lib.hid hn2
            have es := isE_to xt
            rw [he] at es
            clear hn1 hn2 he
            go_wp2_with fail
            obtain ⟨g, hg⟩ : ∃ g, g = w.heap.size := ⟨_, rfl⟩
            have hbx := cur_new w (.cells #[.string xn, .string xt, .slice xA xs.length xc] 32)
            have hbk := Blk.new w 32 [.string xn, .string xt, .slice xA xs.length xc]
            generalize w.alloc (Obj.cells #[.string xn, .string xt, .slice xA xs.length xc] 32) = wn at hbx hbk ⊢
            rw [← hg] at hbk ⊢
            have hgl := hbk.lt
            have HB := Lib.hid (cur_step1 HB0.out hbx)
            have HK := Lib.hid (show Keep w wn [(g, 0, .string xn), (g, 1, .string xt), (g, 2, .slice xA xs.length xc)] from ⟨HB.out, fun c hc => by simp at hc; rcases hc with rfl | rfl | rfl <;> exact ⟨hgl, hbk.cell _⟩⟩)
            have d0 : wn.cell? ⟨g, 0, none⟩ = some (.string xn) := HK.out.get (by simp)
            have d1 : wn.cell? ⟨g, 1, none⟩ = some (.string xt) := HK.out.get (by simp)
            have d2 : wn.cell? ⟨g, 2, none⟩ = some (.slice xA xs.length xc) := HK.out.get (by simp)
            have hgl := HK.out.lt (b := g) (o := 0) (v := .string xn) (by simp)
            have hgb : b < g := by rw [hg]; exact hbl
            have HK2 := Lib.hid (show Keep w wn [(b, off + q * 3, .string zn)] from ⟨HB.out, fun c hc => by simp at hc; rcases hc with rfl; exact ⟨Nat.lt_of_lt_of_le hbl hbx.size, (hbx.cell (p := ⟨b, off + q * 3, none⟩) hbl).trans HCY.out⟩⟩)
            have cy : wn.cell? ⟨b, off + q * 3, none⟩ = some (.string zn) := HK2.out.get (by simp)
            clear hbx hbk hg c0 c1 c2
            go_wp2_with (first
              | (go_at_call 54; refine (name_r xn _ _ HS.out.1 HN1.out).mono ?_; rintro e wn ⟨rfl, hbn⟩; replace HB := Lib.hid (cur_step1 HB.out hbn); replace HK := Lib.hid (HK.out.to hbn); have d0 : wn.cell? ⟨g, 0, none⟩ = some (.string xn) := HK.out.get (by simp); have d1 : wn.cell? ⟨g, 1, none⟩ = some (.string xt) := HK.out.get (by simp); have d2 : wn.cell? ⟨g, 2, none⟩ = some (.slice xA xs.length xc) := HK.out.get (by simp); have hgl := HK.out.lt (b := g) (o := 0) (v := .string xn) (by simp); replace HK2 := Lib.hid (HK2.out.to hbn); have cy : wn.cell? ⟨b, off + q * 3, none⟩ = some (.string zn) := HK2.out.get (by simp); have hbl2 := HK2.out.lt (b := b) (o := off + q * 3) (v := .string zn) (by simp); clear hbn; clear HN1)
              | (go_at_call 54; refine (name_r xt _ _ HS.out.2.1 HN2.out).mono ?_; rintro e wn ⟨rfl, hbn⟩; replace HB := Lib.hid (cur_step1 HB.out hbn); replace HK := Lib.hid (HK.out.to hbn); have d0 : wn.cell? ⟨g, 0, none⟩ = some (.string xn) := HK.out.get (by simp); have d1 : wn.cell? ⟨g, 1, none⟩ = some (.string xt) := HK.out.get (by simp); have d2 : wn.cell? ⟨g, 2, none⟩ = some (.slice xA xs.length xc) := HK.out.get (by simp); have hgl := HK.out.lt (b := g) (o := 0) (v := .string xn) (by simp); replace HK2 := Lib.hid (HK2.out.to hbn); have cy : wn.cell? ⟨b, off + q * 3, none⟩ = some (.string zn) := HK2.out.get (by simp); have hbl2 := HK2.out.lt (b := b) (o := off + q * 3) (v := .string zn) (by simp); clear hbn; clear HN2))
            go_quiet (fail)
            go_wp2_with fail
            go_ret
            exact ⟨ret_int HE.out, below_drewN HB.out _⟩
    · rcases Nat.eq_zero_or_pos k with hk0 | hk0
      · subst hk0
        have HREST := Lib.hid (show uErr U 0 = if 400 < xs.length then 9 else ckN xs by rw [HT.out]; simp only [errU, befU, hn1, he]; rfl)
        simp only [Nat.zero_mul, Nat.add_zero] at c0 c1 c2
        have HN1 := Lib.hid hn1
        have es := isE_to xt
        rw [he] at es
        clear hn1 he
        go_wp2_with fail
        obtain ⟨g, hg⟩ : ∃ g, g = w.heap.size := ⟨_, rfl⟩
        have hbx := cur_new w (.cells #[.string xn, .string xt, .slice xA xs.length xc] 32)
        have hbk := Blk.new w 32 [.string xn, .string xt, .slice xA xs.length xc]
        generalize w.alloc (Obj.cells #[.string xn, .string xt, .slice xA xs.length xc] 32) = wn at hbx hbk ⊢
        rw [← hg] at hbk ⊢
        have hgl := hbk.lt
        have HB := Lib.hid (cur_step1 HB0.out hbx)
        have HK := Lib.hid (show Keep w wn [(g, 0, .string xn), (g, 1, .string xt), (g, 2, .slice xA xs.length xc)] from ⟨HB.out, fun c hc => by simp at hc; rcases hc with rfl | rfl | rfl <;> exact ⟨hgl, hbk.cell _⟩⟩)
        have d0 : wn.cell? ⟨g, 0, none⟩ = some (.string xn) := HK.out.get (by simp)
        have d1 : wn.cell? ⟨g, 1, none⟩ = some (.string xt) := HK.out.get (by simp)
        have d2 : wn.cell? ⟨g, 2, none⟩ = some (.slice xA xs.length xc) := HK.out.get (by simp)
        have hgl := HK.out.lt (b := g) (o := 0) (v := .string xn) (by simp)
        have hgb : b < g := by rw [hg]; exact hbl
        clear hbx hbk hg c0 c1 c2
        go_wp2_with (first
          | (go_at_call 54; refine (name_r xn _ _ HS.out.1 HN1.out).mono ?_; rintro e wn ⟨rfl, hbn⟩; replace HB := Lib.hid (cur_step1 HB.out hbn); replace HK := Lib.hid (HK.out.to hbn); have d0 : wn.cell? ⟨g, 0, none⟩ = some (.string xn) := HK.out.get (by simp); have d1 : wn.cell? ⟨g, 1, none⟩ = some (.string xt) := HK.out.get (by simp); have d2 : wn.cell? ⟨g, 2, none⟩ = some (.slice xA xs.length xc) := HK.out.get (by simp); have hgl := HK.out.lt (b := g) (o := 0) (v := .string xn) (by simp); clear hbn; clear HN1)
          | (go_at_call 54; refine (name_r xt _ _ HS.out.2.1 HN2.out).mono ?_; rintro e wn ⟨rfl, hbn⟩; replace HB := Lib.hid (cur_step1 HB.out hbn); replace HK := Lib.hid (HK.out.to hbn); have d0 : wn.cell? ⟨g, 0, none⟩ = some (.string xn) := HK.out.get (by simp); have d1 : wn.cell? ⟨g, 1, none⟩ = some (.string xt) := HK.out.get (by simp); have d2 : wn.cell? ⟨g, 2, none⟩ = some (.slice xA xs.length xc) := HK.out.get (by simp); have hgl := HK.out.lt (b := g) (o := 0) (v := .string xn) (by simp); clear hbn; clear HN2))
        go_quiet (fail)
        rename Nat => nq
        obtain ⟨W, hW⟩ : ∃ W, wn.drewN nq = W := ⟨_, rfl⟩
        have HBW := Lib.hid (show Below w.heap.size w W by rw [← hW]; exact below_drewN HB.out _)
        have d2 : W.cell? ⟨g, 2, none⟩ = some (.slice xA xs.length xc) := by rw [← hW]; exact d2
        have hgl : g < W.heap.size := by rw [← hW]; exact hgl
        rw [hW]
        clear hW HK HB d0 d1
        by_cases hl4 : 400 < xs.length
        · have hl5 : decide ((400 : Int) < (xs.length : Int)) = true := decide_eq_true (by omega)
          have HE := Lib.hid (FIN.out 9 (by rw [HREST.out, if_pos hl4]) (by decide))
          go_wp2_with fail
          go_ret
          exact ⟨ret_int HE.out, HBW.out⟩
        · have hl5 : decide ((400 : Int) < (xs.length : Int)) = false := decide_eq_false (by omega)
          have HCK := Lib.hid (show uErr U 0 = ckN xs by rw [HREST.out, if_neg hl4])
          have HRX := Lib.hid (HDS.out.to HBW.out)
          go_wp2_with fail
          go_loopw [50] (fun i wr2 => ∃ j : Nat, j ≤ xs.length ∧ i = .int .i64 j ∧ (∀ t, t < j → nErr xs t = 0) ∧ W = wr2) (fun i _ => xs.length - (intOf i).toNat)
          case atStart => exact ⟨0, by omega, rfl, by intro t h; omega, rfl⟩
          case round =>
            obtain ⟨j, hj, rfl, hnj, rfl⟩ := hrel
            have HNJ := Lib.hid hnj
            clear hnj
            by_cases hjl : j < xs.length
            · obtain ⟨n, hn⟩ : ∃ n, xs[j]? = some n := ⟨_, List.getElem?_eq_getElem hjl⟩
              obtain ⟨b3, off3, hA3, hbb3, cn⟩ := rdi_at HRX.out (Below.refl _ _) hn
              have HTN := Lib.hid (show nErr xs j = if isDayB n = false then 2 else if befN xs j n = true then 8 else 0 by simp [nErr, hn])
              have FINN := Lib.hid (show ∀ q : Int, nErr xs j = q → q ≠ 0 → q = r from fun q h1 h2 => FIN.out q (by rw [HCK.out]; unfold ckN; rw [res_of HNJ.out hjl (by rw [h1]; exact h2), h1]) h2)
              have NXTN := Lib.hid (show nErr xs j = 0 → ∀ t, t < j + 1 → nErr xs t = 0 from fun h t ht => by
                by_cases e : t = j
                · rw [e]; exact h
                · exact HNJ.out t (by omega))
              clear hn
              rw [hA3] at d2
              rw [hA3]
              cases hd : isDayB n
              · have HE := Lib.hid (FINN.out 2 (by rw [HTN.out, if_pos hd]) (by decide))
                have HD := Lib.hid hd
                clear hd
                go_wp2_with (go_at_call 53; refine (day_r _ _ _ HD.out).mono ?_; rintro e wn ⟨rfl, rfl⟩)
                go_ret
                exact ⟨ret_int HE.out, HBW.out⟩
              · have HD := Lib.hid hd
                have HTM := Lib.hid (show nErr xs j = if befN xs j n = true then 8 else 0 by rw [HTN.out, if_neg (by rw [hd]; decide)])
                clear hd
                rcases Nat.eq_zero_or_pos j with hj0 | hj0
                · subst hj0
                  have HE := Lib.hid (show nErr xs 0 = 0 by rw [HTM.out]; rfl)
                  simp only [Nat.add_zero] at cn
                  go_wp2_with (go_at_call 53; refine (day_r _ _ _ HD.out).mono ?_; rintro e wn ⟨rfl, rfl⟩)
                  go_roundw
                  case rel => exact ⟨0 + 1, hjl, by simp, NXTN.out HE.out, trivial⟩
                  case measure => simp [intOf] <;> omega
                · obtain ⟨p, hp⟩ : ∃ p, j = p + 1 := ⟨j - 1, by omega⟩
                  have hi : (j : Int) - 1 = (p : Int) := by omega
                  have hpl : p < xs.length := by omega
                  obtain ⟨z, hz⟩ : ∃ z, xs[p]? = some z := ⟨_, List.getElem?_eq_getElem hpl⟩
                  have hjd : decide ((0 : Int) < (j : Int)) = true := decide_eq_true (by omega)
                  have hpd : decide ((p : Int) < (xs.length : Int)) = true := decide_eq_true (by omega)
                  have HBN := Lib.hid (show befN xs j n = decide (n ≤ z) by rw [hp]; simp [befN, hz])
                  obtain ⟨b4, off4, hA4, _, cz⟩ := rdi_at HRX.out (Below.refl _ _) hz
                  rw [hA3] at hA4
                  injection hA4 with hA4
                  injection hA4 with h6 h7 _
                  subst h6 h7
                  have HP := Lib.hid hp
                  clear hp hz
                  cases hz4 : decide (n ≤ z)
                  · have HE := Lib.hid (show nErr xs j = 0 by rw [HTM.out, HBN.out, hz4]; rfl)
                    go_wp2_with (go_at_call 53; refine (day_r _ _ _ HD.out).mono ?_; rintro e wn ⟨rfl, rfl⟩)
                    go_roundw
                    case rel => exact ⟨j + 1, hjl, by simp, NXTN.out HE.out, trivial⟩
                    case measure => simp [intOf] <;> omega
                  · have HE := Lib.hid (FINN.out 8 (by rw [HTM.out, HBN.out, hz4]; rfl) (by decide))
                    go_wp2_with (go_at_call 53; refine (day_r _ _ _ HD.out).mono ?_; rintro e wn ⟨rfl, rfl⟩)
                    go_ret
                    exact ⟨ret_int HE.out, HBW.out⟩
            · have hke := Lib.hid (show j = xs.length by omega)
              have HE := Lib.hid (show uErr U 0 = 0 by rw [HCK.out]; unfold ckN; rw [res_end (by rw [← hke.out]; exact HNJ.out)])
              go_wp2_with fail
              go_ret
              exact ⟨ret_int (HEQ0.out 0 HE.out), HBW.out⟩
      · obtain ⟨q, hq⟩ : ∃ q, k = q + 1 := ⟨k - 1, by omega⟩
        have hi : (k : Int) - 1 = (q : Int) := by omega
        have hql : q < U.length := by omega
        obtain ⟨⟨zn, zt, zs, zA, zc⟩, hy⟩ : ∃ y, U[q]? = some y := ⟨_, List.getElem?_eq_getElem hql⟩
        have hkd : decide ((0 : Int) < (k : Int)) = true := decide_eq_true (by omega)
        have hqd : decide ((q : Int) < (U.length : Int)) = true := decide_eq_true (by omega)
        have hbu : befU U k ⟨xn, xt, xs, xA, xc⟩ = !slt zn xn := by rw [hq]; simp [befU, hy]
        obtain ⟨b5, off5, h5, _, hcl5⟩ := HR.out.at_ HB0.out hy
        injection h5 with h5
        injection h5 with h6 h7 _
        subst h6 h7
        obtain ⟨cy, _, _⟩ := um_cells hcl5
        have HCY := Lib.hid cy
        have HQ := Lib.hid hq
        have hle := leq_eq zn.toList xn.toList
        rw [slt_to zn xn] at hle
        clear hq hcl5 hy cy
        cases hb1 : Op.bytesLess xn.toList zn.toList
        · cases hb2 : (xn.toList == zn.toList)
          · have hz : slt zn xn = true := by rw [hb1, hb2] at hle; simpa using hle
            clear hle
            have HREST := Lib.hid (show uErr U k = if 400 < xs.length then 9 else ckN xs by rw [HT.out]; simp only [errU, hbu, hz, hn1, he]; rfl)
            clear hbu hz
            have HN1 := Lib.hid hn1
            have es := isE_to xt
            rw [he] at es
            clear hn1 he
            go_wp2_with fail
            obtain ⟨g, hg⟩ : ∃ g, g = w.heap.size := ⟨_, rfl⟩
            have hbx := cur_new w (.cells #[.string xn, .string xt, .slice xA xs.length xc] 32)
            have hbk := Blk.new w 32 [.string xn, .string xt, .slice xA xs.length xc]
            generalize w.alloc (Obj.cells #[.string xn, .string xt, .slice xA xs.length xc] 32) = wn at hbx hbk ⊢
            rw [← hg] at hbk ⊢
            have hgl := hbk.lt
            have HB := Lib.hid (cur_step1 HB0.out hbx)
            have HK := Lib.hid (show Keep w wn [(g, 0, .string xn), (g, 1, .string xt), (g, 2, .slice xA xs.length xc)] from ⟨HB.out, fun c hc => by simp at hc; rcases hc with rfl | rfl | rfl <;> exact ⟨hgl, hbk.cell _⟩⟩)
            have d0 : wn.cell? ⟨g, 0, none⟩ = some (.string xn) := HK.out.get (by simp)
            have d1 : wn.cell? ⟨g, 1, none⟩ = some (.string xt) := HK.out.get (by simp)
            have d2 : wn.cell? ⟨g, 2, none⟩ = some (.slice xA xs.length xc) := HK.out.get (by simp)
            have hgl := HK.out.lt (b := g) (o := 0) (v := .string xn) (by simp)
            have hgb : b < g := by rw [hg]; exact hbl
            have HK2 := Lib.hid (show Keep w wn [(b, off + q * 3, .string zn)] from ⟨HB.out, fun c hc => by simp at hc; rcases hc with rfl; exact ⟨Nat.lt_of_lt_of_le hbl hbx.size, (hbx.cell (p := ⟨b, off + q * 3, none⟩) hbl).trans HCY.out⟩⟩)
            have cy : wn.cell? ⟨b, off + q * 3, none⟩ = some (.string zn) := HK2.out.get (by simp)
            clear hbx hbk hg c0 c1 c2
            go_wp2_with (first
              | (go_at_call 54; refine (name_r xn _ _ HS.out.1 HN1.out).mono ?_; rintro e wn ⟨rfl, hbn⟩; replace HB := Lib.hid (cur_step1 HB.out hbn); replace HK := Lib.hid (HK.out.to hbn); have d0 : wn.cell? ⟨g, 0, none⟩ = some (.string xn) := HK.out.get (by simp); have d1 : wn.cell? ⟨g, 1, none⟩ = some (.string xt) := HK.out.get (by simp); have d2 : wn.cell? ⟨g, 2, none⟩ = some (.slice xA xs.length xc) := HK.out.get (by simp); have hgl := HK.out.lt (b := g) (o := 0) (v := .string xn) (by simp); replace HK2 := Lib.hid (HK2.out.to hbn); have cy : wn.cell? ⟨b, off + q * 3, none⟩ = some (.string zn) := HK2.out.get (by simp); have hbl2 := HK2.out.lt (b := b) (o := off + q * 3) (v := .string zn) (by simp); clear hbn; clear HN1)
              | (go_at_call 54; refine (name_r xt _ _ HS.out.2.1 HN2.out).mono ?_; rintro e wn ⟨rfl, hbn⟩; replace HB := Lib.hid (cur_step1 HB.out hbn); replace HK := Lib.hid (HK.out.to hbn); have d0 : wn.cell? ⟨g, 0, none⟩ = some (.string xn) := HK.out.get (by simp); have d1 : wn.cell? ⟨g, 1, none⟩ = some (.string xt) := HK.out.get (by simp); have d2 : wn.cell? ⟨g, 2, none⟩ = some (.slice xA xs.length xc) := HK.out.get (by simp); have hgl := HK.out.lt (b := g) (o := 0) (v := .string xn) (by simp); replace HK2 := Lib.hid (HK2.out.to hbn); have cy : wn.cell? ⟨b, off + q * 3, none⟩ = some (.string zn) := HK2.out.get (by simp); have hbl2 := HK2.out.lt (b := b) (o := off + q * 3) (v := .string zn) (by simp); clear hbn; clear HN2))
            go_quiet (fail)
            rename Nat => nq
            obtain ⟨W, hW⟩ : ∃ W, wn.drewN nq = W := ⟨_, rfl⟩
            have HBW := Lib.hid (show Below w.heap.size w W by rw [← hW]; exact below_drewN HB.out _)
            have d2 : W.cell? ⟨g, 2, none⟩ = some (.slice xA xs.length xc) := by rw [← hW]; exact d2
            have hgl : g < W.heap.size := by rw [← hW]; exact hgl
            rw [hW]
            clear hW HK HB d0 d1
            by_cases hl4 : 400 < xs.length
            · have hl5 : decide ((400 : Int) < (xs.length : Int)) = true := decide_eq_true (by omega)
              have HE := Lib.hid (FIN.out 9 (by rw [HREST.out, if_pos hl4]) (by decide))
              go_wp2_with fail
              go_ret
              exact ⟨ret_int HE.out, HBW.out⟩
            · have hl5 : decide ((400 : Int) < (xs.length : Int)) = false := decide_eq_false (by omega)
              have HCK := Lib.hid (show uErr U k = ckN xs by rw [HREST.out, if_neg hl4])
              have HRX := Lib.hid (HDS.out.to HBW.out)
              go_wp2_with fail
              go_loopw [50] (fun i wr2 => ∃ j : Nat, j ≤ xs.length ∧ i = .int .i64 j ∧ (∀ t, t < j → nErr xs t = 0) ∧ W = wr2) (fun i _ => xs.length - (intOf i).toNat)
              case atStart => exact ⟨0, by omega, rfl, by intro t h; omega, rfl⟩
              case round =>
                obtain ⟨j, hj, rfl, hnj, rfl⟩ := hrel
                have HNJ := Lib.hid hnj
                clear hnj
                by_cases hjl : j < xs.length
                · obtain ⟨n, hn⟩ : ∃ n, xs[j]? = some n := ⟨_, List.getElem?_eq_getElem hjl⟩
                  obtain ⟨b3, off3, hA3, hbb3, cn⟩ := rdi_at HRX.out (Below.refl _ _) hn
                  have HTN := Lib.hid (show nErr xs j = if isDayB n = false then 2 else if befN xs j n = true then 8 else 0 by simp [nErr, hn])
                  have FINN := Lib.hid (show ∀ q : Int, nErr xs j = q → q ≠ 0 → q = r from fun q h1 h2 => FIN.out q (by rw [HCK.out]; unfold ckN; rw [res_of HNJ.out hjl (by rw [h1]; exact h2), h1]) h2)
                  have NXTN := Lib.hid (show nErr xs j = 0 → ∀ t, t < j + 1 → nErr xs t = 0 from fun h t ht => by
                    by_cases e : t = j
                    · rw [e]; exact h
                    · exact HNJ.out t (by omega))
                  clear hn
                  rw [hA3] at d2
                  rw [hA3]
                  cases hd : isDayB n
                  · have HE := Lib.hid (FINN.out 2 (by rw [HTN.out, if_pos hd]) (by decide))
                    have HD := Lib.hid hd
                    clear hd
                    go_wp2_with (go_at_call 53; refine (day_r _ _ _ HD.out).mono ?_; rintro e wn ⟨rfl, rfl⟩)
                    go_ret
                    exact ⟨ret_int HE.out, HBW.out⟩
                  · have HD := Lib.hid hd
                    have HTM := Lib.hid (show nErr xs j = if befN xs j n = true then 8 else 0 by rw [HTN.out, if_neg (by rw [hd]; decide)])
                    clear hd
                    rcases Nat.eq_zero_or_pos j with hj0 | hj0
                    · subst hj0
                      have HE := Lib.hid (show nErr xs 0 = 0 by rw [HTM.out]; rfl)
                      simp only [Nat.add_zero] at cn
                      go_wp2_with (go_at_call 53; refine (day_r _ _ _ HD.out).mono ?_; rintro e wn ⟨rfl, rfl⟩)
                      go_roundw
                      case rel => exact ⟨0 + 1, hjl, by simp, NXTN.out HE.out, trivial⟩
                      case measure => simp [intOf] <;> omega
                    · obtain ⟨p, hp⟩ : ∃ p, j = p + 1 := ⟨j - 1, by omega⟩
                      have hi : (j : Int) - 1 = (p : Int) := by omega
                      have hpl : p < xs.length := by omega
                      obtain ⟨z, hz⟩ : ∃ z, xs[p]? = some z := ⟨_, List.getElem?_eq_getElem hpl⟩
                      have hjd : decide ((0 : Int) < (j : Int)) = true := decide_eq_true (by omega)
                      have hpd : decide ((p : Int) < (xs.length : Int)) = true := decide_eq_true (by omega)
                      have HBN := Lib.hid (show befN xs j n = decide (n ≤ z) by rw [hp]; simp [befN, hz])
                      obtain ⟨b4, off4, hA4, _, cz⟩ := rdi_at HRX.out (Below.refl _ _) hz
                      rw [hA3] at hA4
                      injection hA4 with hA4
                      injection hA4 with h6 h7 _
                      subst h6 h7
                      have HP := Lib.hid hp
                      clear hp hz
                      cases hz4 : decide (n ≤ z)
                      · have HE := Lib.hid (show nErr xs j = 0 by rw [HTM.out, HBN.out, hz4]; rfl)
                        go_wp2_with (go_at_call 53; refine (day_r _ _ _ HD.out).mono ?_; rintro e wn ⟨rfl, rfl⟩)
                        go_roundw
                        case rel => exact ⟨j + 1, hjl, by simp, NXTN.out HE.out, trivial⟩
                        case measure => simp [intOf] <;> omega
                      · have HE := Lib.hid (FINN.out 8 (by rw [HTM.out, HBN.out, hz4]; rfl) (by decide))
                        go_wp2_with (go_at_call 53; refine (day_r _ _ _ HD.out).mono ?_; rintro e wn ⟨rfl, rfl⟩)
                        go_ret
                        exact ⟨ret_int HE.out, HBW.out⟩
                · have hke := Lib.hid (show j = xs.length by omega)
                  have HE := Lib.hid (show uErr U k = 0 by rw [HCK.out]; unfold ckN; rw [res_end (by rw [← hke.out]; exact HNJ.out)])
                  go_wp2_with fail
                  go_ret
                  exact ⟨ret_int (HEQ0.out 0 HE.out), HBW.out⟩
          · have hz : slt zn xn = false := by rw [hb1, hb2] at hle; simpa using hle
            clear hle
            have HE := Lib.hid (FIN.out 8 (by rw [HT.out]; simp only [errU, hbu, hz, hn1, he]; rfl) (by decide))
            clear hbu hz
            have HN1 := Lib.hid hn1
            have es := isE_to xt
            rw [he] at es
            clear hn1 he
            go_wp2_with fail
            obtain ⟨g, hg⟩ : ∃ g, g = w.heap.size := ⟨_, rfl⟩
            have hbx := cur_new w (.cells #[.string xn, .string xt, .slice xA xs.length xc] 32)
            have hbk := Blk.new w 32 [.string xn, .string xt, .slice xA xs.length xc]
            generalize w.alloc (Obj.cells #[.string xn, .string xt, .slice xA xs.length xc] 32) = wn at hbx hbk ⊢
            rw [← hg] at hbk ⊢
            have hgl := hbk.lt
            have HB := Lib.hid (cur_step1 HB0.out hbx)
            have HK := Lib.hid (show Keep w wn [(g, 0, .string xn), (g, 1, .string xt), (g, 2, .slice xA xs.length xc)] from ⟨HB.out, fun c hc => by simp at hc; rcases hc with rfl | rfl | rfl <;> exact ⟨hgl, hbk.cell _⟩⟩)
            have d0 : wn.cell? ⟨g, 0, none⟩ = some (.string xn) := HK.out.get (by simp)
            have d1 : wn.cell? ⟨g, 1, none⟩ = some (.string xt) := HK.out.get (by simp)
            have d2 : wn.cell? ⟨g, 2, none⟩ = some (.slice xA xs.length xc) := HK.out.get (by simp)
            have hgl := HK.out.lt (b := g) (o := 0) (v := .string xn) (by simp)
            have hgb : b < g := by rw [hg]; exact hbl
            have HK2 := Lib.hid (show Keep w wn [(b, off + q * 3, .string zn)] from ⟨HB.out, fun c hc => by simp at hc; rcases hc with rfl; exact ⟨Nat.lt_of_lt_of_le hbl hbx.size, (hbx.cell (p := ⟨b, off + q * 3, none⟩) hbl).trans HCY.out⟩⟩)
            have cy : wn.cell? ⟨b, off + q * 3, none⟩ = some (.string zn) := HK2.out.get (by simp)
            clear hbx hbk hg c0 c1 c2
            go_wp2_with (first
              | (go_at_call 54; refine (name_r xn _ _ HS.out.1 HN1.out).mono ?_; rintro e wn ⟨rfl, hbn⟩; replace HB := Lib.hid (cur_step1 HB.out hbn); replace HK := Lib.hid (HK.out.to hbn); have d0 : wn.cell? ⟨g, 0, none⟩ = some (.string xn) := HK.out.get (by simp); have d1 : wn.cell? ⟨g, 1, none⟩ = some (.string xt) := HK.out.get (by simp); have d2 : wn.cell? ⟨g, 2, none⟩ = some (.slice xA xs.length xc) := HK.out.get (by simp); have hgl := HK.out.lt (b := g) (o := 0) (v := .string xn) (by simp); replace HK2 := Lib.hid (HK2.out.to hbn); have cy : wn.cell? ⟨b, off + q * 3, none⟩ = some (.string zn) := HK2.out.get (by simp); have hbl2 := HK2.out.lt (b := b) (o := off + q * 3) (v := .string zn) (by simp); clear hbn; clear HN1)
              | (go_at_call 54; refine (name_r xt _ _ HS.out.2.1 HN2.out).mono ?_; rintro e wn ⟨rfl, hbn⟩; replace HB := Lib.hid (cur_step1 HB.out hbn); replace HK := Lib.hid (HK.out.to hbn); have d0 : wn.cell? ⟨g, 0, none⟩ = some (.string xn) := HK.out.get (by simp); have d1 : wn.cell? ⟨g, 1, none⟩ = some (.string xt) := HK.out.get (by simp); have d2 : wn.cell? ⟨g, 2, none⟩ = some (.slice xA xs.length xc) := HK.out.get (by simp); have hgl := HK.out.lt (b := g) (o := 0) (v := .string xn) (by simp); replace HK2 := Lib.hid (HK2.out.to hbn); have cy : wn.cell? ⟨b, off + q * 3, none⟩ = some (.string zn) := HK2.out.get (by simp); have hbl2 := HK2.out.lt (b := b) (o := off + q * 3) (v := .string zn) (by simp); clear hbn; clear HN2))
            go_quiet (fail)
            go_wp2_with fail
            go_ret
            exact ⟨ret_int HE.out, below_drewN HB.out _⟩
        · have hz : slt zn xn = false := by rw [hb1] at hle; simpa using hle
          clear hle
          have HE := Lib.hid (FIN.out 8 (by rw [HT.out]; simp only [errU, hbu, hz, hn1, he]; rfl) (by decide))
          clear hbu hz
          have HN1 := Lib.hid hn1
          have es := isE_to xt
          rw [he] at es
          clear hn1 he
          go_wp2_with fail
          obtain ⟨g, hg⟩ : ∃ g, g = w.heap.size := ⟨_, rfl⟩
          have hbx := cur_new w (.cells #[.string xn, .string xt, .slice xA xs.length xc] 32)
          have hbk := Blk.new w 32 [.string xn, .string xt, .slice xA xs.length xc]
          generalize w.alloc (Obj.cells #[.string xn, .string xt, .slice xA xs.length xc] 32) = wn at hbx hbk ⊢
          rw [← hg] at hbk ⊢
          have hgl := hbk.lt
          have HB := Lib.hid (cur_step1 HB0.out hbx)
          have HK := Lib.hid (show Keep w wn [(g, 0, .string xn), (g, 1, .string xt), (g, 2, .slice xA xs.length xc)] from ⟨HB.out, fun c hc => by simp at hc; rcases hc with rfl | rfl | rfl <;> exact ⟨hgl, hbk.cell _⟩⟩)
          have d0 : wn.cell? ⟨g, 0, none⟩ = some (.string xn) := HK.out.get (by simp)
          have d1 : wn.cell? ⟨g, 1, none⟩ = some (.string xt) := HK.out.get (by simp)
          have d2 : wn.cell? ⟨g, 2, none⟩ = some (.slice xA xs.length xc) := HK.out.get (by simp)
          have hgl := HK.out.lt (b := g) (o := 0) (v := .string xn) (by simp)
          have hgb : b < g := by rw [hg]; exact hbl
          have HK2 := Lib.hid (show Keep w wn [(b, off + q * 3, .string zn)] from ⟨HB.out, fun c hc => by simp at hc; rcases hc with rfl; exact ⟨Nat.lt_of_lt_of_le hbl hbx.size, (hbx.cell (p := ⟨b, off + q * 3, none⟩) hbl).trans HCY.out⟩⟩)
          have cy : wn.cell? ⟨b, off + q * 3, none⟩ = some (.string zn) := HK2.out.get (by simp)
          clear hbx hbk hg c0 c1 c2
          go_wp2_with (first
            | (go_at_call 54; refine (name_r xn _ _ HS.out.1 HN1.out).mono ?_; rintro e wn ⟨rfl, hbn⟩; replace HB := Lib.hid (cur_step1 HB.out hbn); replace HK := Lib.hid (HK.out.to hbn); have d0 : wn.cell? ⟨g, 0, none⟩ = some (.string xn) := HK.out.get (by simp); have d1 : wn.cell? ⟨g, 1, none⟩ = some (.string xt) := HK.out.get (by simp); have d2 : wn.cell? ⟨g, 2, none⟩ = some (.slice xA xs.length xc) := HK.out.get (by simp); have hgl := HK.out.lt (b := g) (o := 0) (v := .string xn) (by simp); replace HK2 := Lib.hid (HK2.out.to hbn); have cy : wn.cell? ⟨b, off + q * 3, none⟩ = some (.string zn) := HK2.out.get (by simp); have hbl2 := HK2.out.lt (b := b) (o := off + q * 3) (v := .string zn) (by simp); clear hbn; clear HN1)
            | (go_at_call 54; refine (name_r xt _ _ HS.out.2.1 HN2.out).mono ?_; rintro e wn ⟨rfl, hbn⟩; replace HB := Lib.hid (cur_step1 HB.out hbn); replace HK := Lib.hid (HK.out.to hbn); have d0 : wn.cell? ⟨g, 0, none⟩ = some (.string xn) := HK.out.get (by simp); have d1 : wn.cell? ⟨g, 1, none⟩ = some (.string xt) := HK.out.get (by simp); have d2 : wn.cell? ⟨g, 2, none⟩ = some (.slice xA xs.length xc) := HK.out.get (by simp); have hgl := HK.out.lt (b := g) (o := 0) (v := .string xn) (by simp); replace HK2 := Lib.hid (HK2.out.to hbn); have cy : wn.cell? ⟨b, off + q * 3, none⟩ = some (.string zn) := HK2.out.get (by simp); have hbl2 := HK2.out.lt (b := b) (o := off + q * 3) (v := .string zn) (by simp); clear hbn; clear HN2))
          go_quiet (fail)
          go_wp2_with fail
          go_ret
          exact ⟨ret_int HE.out, below_drewN HB.out _⟩
end Go.Proofs.Ytckbhdokfkabfaa
