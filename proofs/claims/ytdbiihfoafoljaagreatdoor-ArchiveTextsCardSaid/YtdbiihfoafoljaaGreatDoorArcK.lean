/-
  Chapter 58: Check of the program and of the reference.
-/
import Derived.Test.YtdbiihfoafoljaaGreatDoorArcP
import Derived.Test.YtdbiihfoafoljaaGreatDoorChrg
import Derived.Deep.MidRow
set_option linter.unusedSimpArgs false
set_option linter.unusedVariables false
namespace Go.Proofs.YtdbiihfoafoljaaGreatDoor
open Go.RowKit
set_option maxRecDepth 100000
set_option maxHeartbeats 4000000
theorem ent_info : (Tryz.prog.info? 40).map (·.size) = some 21 := by kernel_rfl
theorem evt_info3 : (Tryz.prog.info? 38).map (·.size) = some 19 := by kernel_rfl
def AkR (l : List Ent) (w : World) (iv : Value) (wr : World) : Prop := ∃ k : Nat, k ≤ l.length ∧ iv = .int .i64 k ∧ aScan (preA l k) (l.drop k) = aScan none l ∧ Below w.heap.size w wr

theorem chka_p (l : List Ent) (A : Option Addr) (c : Nat) (w : World) (hl : l.length ≤ 1000000) (hsc : ∀ x ∈ l, x.sc.size ≤ 9223372036854775807) (hrd : Rd entE 21 w w.heap.size A l) :
    Calls Tryz.prog 18 #[.slice A l.length c] w fun e' w' => e' = .returned (.int .i64 (chkA l)) ∧ Below w.heap.size w w' := by
  obtain ⟨R, hR⟩ : ∃ R, chkA l = R := ⟨_, rfl⟩
  rw [hR]
  by_cases h4 : 4000 < l.length
  · have HRR := Lib.hid (show R = 9 by rw [← hR]; unfold chkA; rw [if_pos h4])
    have g1 : decide (4000 < (l.length : Int)) = true := by simp; omega
    go_enter Tryz.func18, Tryz.ntmps18
    go_wp2_with (fail)
    go_ret
    rw [HRR.out]
    exact ⟨rfl, Below.refl _ _⟩
  have HRR := Lib.hid (show R = aScan none l by rw [← hR]; unfold chkA; rw [if_neg h4])
  have g1 : decide (4000 < (l.length : Int)) = false := by simp; omega
  have HRD := Lib.hid hrd
  have HSC := Lib.hid hsc
  have H4 := Lib.hid h4
  clear hR hrd hsc h4
  go_enter Tryz.func18, Tryz.ntmps18
  go_wp2_with (fail)
  go_loopw [11] (AkR l w) (fun i _ => l.length - (intOf i).toNat)
  case atStart => exact ⟨0, by omega, rfl, rfl, Below.refl _ _⟩
  case round =>
    obtain ⟨k, hk, rfl, hsn, hb⟩ := hrel
    have HSN := Lib.hid hsn
    have HB := Lib.hid hb
    clear hsn hb
    by_cases hkl : k < l.length
    · obtain ⟨x, hx⟩ : ∃ x, l[k]? = some x := ⟨_, List.getElem?_eq_getElem hkl⟩
      obtain ⟨b2, off2, rfl, hb2l, hc2⟩ := HRD.out k x hx
      have hra : wr.rangeAt b2 (off2 + k * 21) (entE x) := fun j v hv => (HB.out.cell (p := ⟨b2, off2 + k * 21 + j, none⟩) hb2l).trans (hc2 j v hv)
      have HRA := Lib.hid hra
      have HXS := Lib.hid (HSC.out x (List.mem_of_getElem? hx))
      have HNX := Lib.hid (aScan_at hx)
      have HX := Lib.hid hx
      clear hra hc2 hx
      obtain ⟨W6, hW6⟩ : ∃ y, wr.alloc (.cells (entE x).toArray 40) = y := ⟨_, rfl⟩
      have HB6 := Lib.hid (show Below wr.heap.size wr W6 by rw [← hW6]; exact cur_new _ _)
      have HX6 := Lib.hid (show Blk W6 wr.heap.size 40 (entE x) by rw [← hW6]; exact Blk.new wr _ _)
      have S6 := Lib.hid hW6
      have e0 : W6.cell? ⟨wr.heap.size, 0, none⟩ = some (.int .i64 x.id) := by rw [HX6.out.cell]; rfl
      have e20 : W6.cell? ⟨wr.heap.size, 20, none⟩ = some (.string x.sc) := by rw [HX6.out.cell]; rfl
      clear hW6
      have HB7 := Lib.hid (cur_step1 HB.out HB6.out)
      by_cases hid : x.id < 1 ∨ 1099511627776 < x.id
      · have HR2 := Lib.hid (show R = 2 by rw [HRR.out, ← HSN.out, HNX.out, show aErr (preA l k) x = 2 by unfold aErr; rw [if_pos hid]]; rfl)
        by_cases hi1 : x.id < 1
        · have i1 : decide (x.id < 1) = true := decide_eq_true hi1
          clear hid hi1
          go_wp2_with (first | (refine wpList_load_mid rfl 40 _ rfl b2 (off2 + k * 21) (by rfl) (entE x) _ HRA.out (by rfl) (by rfl) ent_info ?_) | (refine wpList_storeNew rfl _ _ 40 rfl _ (entE x).toArray ent_info (by rfl) (by rfl) rfl (ent_one _) ?_; rw [S6.out]))
          go_ret
          rw [HR2.out]
          exact ⟨rfl, HB7.out⟩
        · have i1 : decide (x.id < 1) = false := decide_eq_false hi1
          have i2 : decide (1099511627776 < x.id) = true := decide_eq_true (by omega)
          clear hid hi1
          go_wp2_with (first | (refine wpList_load_mid rfl 40 _ rfl b2 (off2 + k * 21) (by rfl) (entE x) _ HRA.out (by rfl) (by rfl) ent_info ?_) | (refine wpList_storeNew rfl _ _ 40 rfl _ (entE x).toArray ent_info (by rfl) (by rfl) rfl (ent_one _) ?_; rw [S6.out]))
          go_ret
          rw [HR2.out]
          exact ⟨rfl, HB7.out⟩
      have i1 : decide (x.id < 1) = false := decide_eq_false (by omega)
      have i2 : decide (1099511627776 < x.id) = false := decide_eq_false (by omega)
      have HID := Lib.hid hid
      clear hid
      rcases Nat.eq_zero_or_pos k with hk0 | hk0
      · have HLQ := Lib.hid (show leqO (preA l k) x = false by rw [hk0]; rfl)
        have hkd : decide ((0 : Int) < (k : Int)) = false := decide_eq_false (by omega)
        have hkd2 : decide (0 < k) = false := decide_eq_false (by omega)
        have HK0 := Lib.hid hk0
        clear hk0
        go_wp2_with (first | (refine wpList_load_mid rfl 40 _ rfl b2 (off2 + k * 21) (by rfl) (entE x) _ HRA.out (by rfl) (by rfl) ent_info ?_) | (refine wpList_storeNew rfl _ _ 40 rfl _ (entE x).toArray ent_info (by rfl) (by rfl) rfl (ent_one _) ?_; rw [S6.out]))
        go_quiet (fail)
        have HB7q := Lib.hid (below_drewN HB7.out nq)
        have HX7 := Lib.hid (show Blk (W6.drewN nq) wr.heap.size 40 (entE x) from HX6.out)
        have e20q : (W6.drewN nq).cell? ⟨wr.heap.size, 20, none⟩ = some (.string x.sc) := e20
        generalize W6.drewN nq = W7 at HB7q HX7 e20q ⊢
        by_cases hn : nameB x.sc = false
        · have HR2 := Lib.hid (show R = 5 by rw [HRR.out, ← HSN.out, HNX.out, show aErr (preA l k) x = 5 by unfold aErr; rw [if_neg HID.out, if_neg (by rw [HLQ.out]; decide), if_pos hn]]; rfl)
          have HN := Lib.hid hn
          clear hn
          go_wp2_with (fail)
          refine (name_p x.sc false _ HXS.out HN.out).mono ?_
          rintro e1 wn ⟨rfl, hbn⟩
          have HBN := Lib.hid hbn
          clear hbn
          go_wp2_with (fail)
          go_ret
          rw [HR2.out]
          exact ⟨rfl, cur_step1 HB7q.out HBN.out⟩
        have HN := Lib.hid (show nameB x.sc = true by simpa using hn)
        clear hn
        have HA := Lib.hid (show aErr (preA l k) x = chkE x.ev by unfold aErr; rw [if_neg HID.out, if_neg (by rw [HLQ.out]; decide), if_neg (by rw [HN.out]; decide)])
        go_wp2_with (fail)
        refine (name_p x.sc true _ HXS.out HN.out).mono ?_
        rintro e1 wn ⟨rfl, hbn⟩
        have HBN := Lib.hid (cur_step1 HB7q.out hbn)
        have HXN := Lib.hid (show wn.rangeAt wr.heap.size 1 (evE x.ev) from fun j v hv => by
          have hlt : wr.heap.size < W7.heap.size := HX7.out.lt
          refine (hbn.cell (p := ⟨wr.heap.size, 1 + j, none⟩) hlt).trans ?_
          rw [HX7.out.cell]
          exact entE_ev x hv)
        clear hbn
        go_wp2_with (first | (refine wpList_load_mid rfl 38 _ rfl wr.heap.size 1 (by rfl) (evE x.ev) _ HXN.out (by rfl) (by rfl) evt_info3 ?_))
        refine (chke_p x.ev _).mono ?_
        rintro e1 w9 ⟨rfl, hb9⟩
        have HB9 := Lib.hid (cur_step1 HBN.out hb9)
        clear hb9
        by_cases hc : chkE x.ev = 0
        · rw [hc]
          have HN2 := Lib.hid (show aScan (preA l (k + 1)) (l.drop (k + 1)) = aScan none l by rw [← HSN.out, HNX.out, if_neg (by rw [HA.out, hc]; decide)])
          clear hc
          go_wp2_with (fail)
          exact ⟨⟨k + 1, by omega, by simp, HN2.out, HB9.out⟩, by show l.length - (k + 1) < l.length - k; omega⟩
        · obtain ⟨v, hv⟩ : ∃ v, chkE x.ev = v := ⟨_, rfl⟩
          have gv : (v != 0) = true := by rw [← hv]; simpa using hc
          have HR2 := Lib.hid (show R = v by rw [HRR.out, ← HSN.out, HNX.out, if_pos (by rw [HA.out]; exact hc), HA.out, hv])
          rw [hv]
          clear hc hv
          go_wp2_with (fail)
          go_ret
          rw [HR2.out]
          exact ⟨rfl, HB9.out⟩
      · obtain ⟨q, hq⟩ : ∃ q, k = q + 1 := ⟨k - 1, by omega⟩
        have hi : (k : Int) - 1 = (q : Int) := by omega
        have hql : q < l.length := by omega
        have hkd : decide ((0 : Int) < (k : Int)) = true := decide_eq_true (by omega)
        have hqd : decide ((q : Int) < (l.length : Int)) = true := decide_eq_true (by omega)
        have hqb : (0 : Int) ≤ (q : Int) := by omega
        have hqb2 : (q : Int) < (l.length : Int) := by omega
        have hwr : IntKind.i64.wrap ((k : Int) - 1) = (q : Int) := by (rw [hi]; simp [IntKind.wrap, IntKind.bits, IntKind.signed]; omega)
        obtain ⟨y, hy⟩ : ∃ y, l[q]? = some y := ⟨_, List.getElem?_eq_getElem hql⟩
        obtain ⟨b5, off5, h5, _, hcl5⟩ := HRD.out q y hy
        injection h5 with h5
        injection h5 with h6 h7 _
        subst h6 h7
        have y0 : W6.cell? ⟨b2, off2 + q * 21, none⟩ = some (.int .i64 y.id) := by
          have := hcl5 0 _ rfl
          rw [HB7.out.cell (p := ⟨b2, off2 + q * 21, none⟩) hb2l]
          exact this
        have HLQ := Lib.hid (show leqO (preA l k) x = decide (x.id ≤ y.id) by rw [hq]; simp [preA, hy, leqO])
        have HQ := Lib.hid hq
        clear hcl5 hq hy
        by_cases hle : x.id ≤ y.id
        · have HR2 := Lib.hid (show R = 8 by rw [HRR.out, ← HSN.out, HNX.out, show aErr (preA l k) x = 8 by unfold aErr; rw [if_neg HID.out, if_pos (by rw [HLQ.out]; exact decide_eq_true hle)]]; rfl)
          have i3 : decide (x.id ≤ y.id) = true := decide_eq_true hle
          clear hle
          go_wp2_with (first | (refine wpList_load_mid rfl 40 _ rfl b2 (off2 + k * 21) (by rfl) (entE x) _ HRA.out (by rfl) (by rfl) ent_info ?_) | (refine wpList_storeNew rfl _ _ 40 rfl _ (entE x).toArray ent_info (by rfl) (by rfl) rfl (ent_one _) ?_; rw [S6.out]))
          go_quiet (fail)
          go_wp2_with (fail)
          go_ret
          rw [HR2.out]
          exact ⟨rfl, below_drewN HB7.out _⟩
        · replace HLQ := Lib.hid (show leqO (preA l k) x = false by rw [HLQ.out]; exact decide_eq_false hle)
          have i3 : decide (x.id ≤ y.id) = false := decide_eq_false hle
          clear hle
          go_wp2_with (first | (refine wpList_load_mid rfl 40 _ rfl b2 (off2 + k * 21) (by rfl) (entE x) _ HRA.out (by rfl) (by rfl) ent_info ?_) | (refine wpList_storeNew rfl _ _ 40 rfl _ (entE x).toArray ent_info (by rfl) (by rfl) rfl (ent_one _) ?_; rw [S6.out]))
          go_quiet (fail)
          have HB7q := Lib.hid (below_drewN HB7.out nq)
          have HX7 := Lib.hid (show Blk (W6.drewN nq) wr.heap.size 40 (entE x) from HX6.out)
          have e20q : (W6.drewN nq).cell? ⟨wr.heap.size, 20, none⟩ = some (.string x.sc) := e20
          generalize W6.drewN nq = W7 at HB7q HX7 e20q ⊢
          by_cases hn : nameB x.sc = false
          · have HR2 := Lib.hid (show R = 5 by rw [HRR.out, ← HSN.out, HNX.out, show aErr (preA l k) x = 5 by unfold aErr; rw [if_neg HID.out, if_neg (by rw [HLQ.out]; decide), if_pos hn]]; rfl)
            have HN := Lib.hid hn
            clear hn
            go_wp2_with (fail)
            refine (name_p x.sc false _ HXS.out HN.out).mono ?_
            rintro e1 wn ⟨rfl, hbn⟩
            have HBN := Lib.hid hbn
            clear hbn
            go_wp2_with (fail)
            go_ret
            rw [HR2.out]
            exact ⟨rfl, cur_step1 HB7q.out HBN.out⟩
          have HN := Lib.hid (show nameB x.sc = true by simpa using hn)
          clear hn
          have HA := Lib.hid (show aErr (preA l k) x = chkE x.ev by unfold aErr; rw [if_neg HID.out, if_neg (by rw [HLQ.out]; decide), if_neg (by rw [HN.out]; decide)])
          go_wp2_with (fail)
          refine (name_p x.sc true _ HXS.out HN.out).mono ?_
          rintro e1 wn ⟨rfl, hbn⟩
          have HBN := Lib.hid (cur_step1 HB7q.out hbn)
          have HXN := Lib.hid (show wn.rangeAt wr.heap.size 1 (evE x.ev) from fun j v hv => by
            have hlt : wr.heap.size < W7.heap.size := HX7.out.lt
            refine (hbn.cell (p := ⟨wr.heap.size, 1 + j, none⟩) hlt).trans ?_
            rw [HX7.out.cell]
            exact entE_ev x hv)
          clear hbn
          go_wp2_with (first | (refine wpList_load_mid rfl 38 _ rfl wr.heap.size 1 (by rfl) (evE x.ev) _ HXN.out (by rfl) (by rfl) evt_info3 ?_))
          refine (chke_p x.ev _).mono ?_
          rintro e1 w9 ⟨rfl, hb9⟩
          have HB9 := Lib.hid (cur_step1 HBN.out hb9)
          clear hb9
          by_cases hc : chkE x.ev = 0
          · rw [hc]
            have HN2 := Lib.hid (show aScan (preA l (k + 1)) (l.drop (k + 1)) = aScan none l by rw [← HSN.out, HNX.out, if_neg (by rw [HA.out, hc]; decide)])
            clear hc
            go_wp2_with (fail)
            exact ⟨⟨k + 1, by omega, by simp, HN2.out, HB9.out⟩, by show l.length - (k + 1) < l.length - k; omega⟩
          · obtain ⟨v, hv⟩ : ∃ v, chkE x.ev = v := ⟨_, rfl⟩
            have gv : (v != 0) = true := by rw [← hv]; simpa using hc
            have HR2 := Lib.hid (show R = v by rw [HRR.out, ← HSN.out, HNX.out, if_pos (by rw [HA.out]; exact hc), HA.out, hv])
            rw [hv]
            clear hc hv
            go_wp2_with (fail)
            go_ret
            rw [HR2.out]
            exact ⟨rfl, HB9.out⟩
    · have hkn : k = l.length := by omega
      have HR2 := Lib.hid (show R = 0 by rw [HRR.out, ← HSN.out, hkn, List.drop_length]; unfold aScan; rfl)
      clear hkn
      go_wp2_with (fail)
      go_ret
      rw [HR2.out]
      exact ⟨rfl, HB.out⟩

theorem chka_r (l : List Ent) (A : Option Addr) (c : Nat) (w : World) (hl : l.length ≤ 1000000) (hsc : ∀ x ∈ l, x.sc.size ≤ 9223372036854775807) (hrd : Rd entE 21 w w.heap.size A l) :
    Calls Tryz.prog 24 #[.slice A l.length c] w fun e' w' => e' = .returned (.int .i64 (chkA l)) ∧ Below w.heap.size w w' := by
  obtain ⟨R, hR⟩ : ∃ R, chkA l = R := ⟨_, rfl⟩
  rw [hR]
  by_cases h4 : 4000 < l.length
  · have HRR := Lib.hid (show R = 9 by rw [← hR]; unfold chkA; rw [if_pos h4])
    have g1 : decide (4000 < (l.length : Int)) = true := by simp; omega
    go_enter Tryz.func24, Tryz.ntmps24
    go_wp2_with (fail)
    go_ret
    rw [HRR.out]
    exact ⟨rfl, Below.refl _ _⟩
  have HRR := Lib.hid (show R = aScan none l by rw [← hR]; unfold chkA; rw [if_neg h4])
  have g1 : decide (4000 < (l.length : Int)) = false := by simp; omega
  have HRD := Lib.hid hrd
  have HSC := Lib.hid hsc
  have H4 := Lib.hid h4
  clear hR hrd hsc h4
  go_enter Tryz.func24, Tryz.ntmps24
  go_wp2_with (fail)
  go_loopw [11] (AkR l w) (fun i _ => l.length - (intOf i).toNat)
  case atStart => exact ⟨0, by omega, rfl, rfl, Below.refl _ _⟩
  case round =>
    obtain ⟨k, hk, rfl, hsn, hb⟩ := hrel
    have HSN := Lib.hid hsn
    have HB := Lib.hid hb
    clear hsn hb
    by_cases hkl : k < l.length
    · obtain ⟨x, hx⟩ : ∃ x, l[k]? = some x := ⟨_, List.getElem?_eq_getElem hkl⟩
      obtain ⟨b2, off2, rfl, hb2l, hc2⟩ := HRD.out k x hx
      have hra : wr.rangeAt b2 (off2 + k * 21) (entE x) := fun j v hv => (HB.out.cell (p := ⟨b2, off2 + k * 21 + j, none⟩) hb2l).trans (hc2 j v hv)
      have HRA := Lib.hid hra
      have HXS := Lib.hid (HSC.out x (List.mem_of_getElem? hx))
      have HNX := Lib.hid (aScan_at hx)
      have HX := Lib.hid hx
      clear hra hc2 hx
      obtain ⟨W6, hW6⟩ : ∃ y, wr.alloc (.cells (entE x).toArray 40) = y := ⟨_, rfl⟩
      have HB6 := Lib.hid (show Below wr.heap.size wr W6 by rw [← hW6]; exact cur_new _ _)
      have HX6 := Lib.hid (show Blk W6 wr.heap.size 40 (entE x) by rw [← hW6]; exact Blk.new wr _ _)
      have S6 := Lib.hid hW6
      have e0 : W6.cell? ⟨wr.heap.size, 0, none⟩ = some (.int .i64 x.id) := by rw [HX6.out.cell]; rfl
      have e20 : W6.cell? ⟨wr.heap.size, 20, none⟩ = some (.string x.sc) := by rw [HX6.out.cell]; rfl
      clear hW6
      have HB7 := Lib.hid (cur_step1 HB.out HB6.out)
      by_cases hid : x.id < 1 ∨ 1099511627776 < x.id
      · have HR2 := Lib.hid (show R = 2 by rw [HRR.out, ← HSN.out, HNX.out, show aErr (preA l k) x = 2 by unfold aErr; rw [if_pos hid]]; rfl)
        by_cases hi1 : x.id < 1
        · have i1 : decide (x.id < 1) = true := decide_eq_true hi1
          clear hid hi1
          go_wp2_with (first | (refine wpList_load_mid rfl 40 _ rfl b2 (off2 + k * 21) (by rfl) (entE x) _ HRA.out (by rfl) (by rfl) ent_info ?_) | (refine wpList_storeNew rfl _ _ 40 rfl _ (entE x).toArray ent_info (by rfl) (by rfl) rfl (ent_one _) ?_; rw [S6.out]))
          go_ret
          rw [HR2.out]
          exact ⟨rfl, HB7.out⟩
        · have i1 : decide (x.id < 1) = false := decide_eq_false hi1
          have i2 : decide (1099511627776 < x.id) = true := decide_eq_true (by omega)
          clear hid hi1
          go_wp2_with (first | (refine wpList_load_mid rfl 40 _ rfl b2 (off2 + k * 21) (by rfl) (entE x) _ HRA.out (by rfl) (by rfl) ent_info ?_) | (refine wpList_storeNew rfl _ _ 40 rfl _ (entE x).toArray ent_info (by rfl) (by rfl) rfl (ent_one _) ?_; rw [S6.out]))
          go_ret
          rw [HR2.out]
          exact ⟨rfl, HB7.out⟩
      have i1 : decide (x.id < 1) = false := decide_eq_false (by omega)
      have i2 : decide (1099511627776 < x.id) = false := decide_eq_false (by omega)
      have HID := Lib.hid hid
      clear hid
      rcases Nat.eq_zero_or_pos k with hk0 | hk0
      · have HLQ := Lib.hid (show leqO (preA l k) x = false by rw [hk0]; rfl)
        have hkd : decide ((0 : Int) < (k : Int)) = false := decide_eq_false (by omega)
        have hkd2 : decide (0 < k) = false := decide_eq_false (by omega)
        have HK0 := Lib.hid hk0
        clear hk0
        go_wp2_with (first | (refine wpList_load_mid rfl 40 _ rfl b2 (off2 + k * 21) (by rfl) (entE x) _ HRA.out (by rfl) (by rfl) ent_info ?_) | (refine wpList_storeNew rfl _ _ 40 rfl _ (entE x).toArray ent_info (by rfl) (by rfl) rfl (ent_one _) ?_; rw [S6.out]))
        go_quiet (fail)
        have HB7q := Lib.hid (below_drewN HB7.out nq)
        have HX7 := Lib.hid (show Blk (W6.drewN nq) wr.heap.size 40 (entE x) from HX6.out)
        have e20q : (W6.drewN nq).cell? ⟨wr.heap.size, 20, none⟩ = some (.string x.sc) := e20
        generalize W6.drewN nq = W7 at HB7q HX7 e20q ⊢
        by_cases hn : nameB x.sc = false
        · have HR2 := Lib.hid (show R = 5 by rw [HRR.out, ← HSN.out, HNX.out, show aErr (preA l k) x = 5 by unfold aErr; rw [if_neg HID.out, if_neg (by rw [HLQ.out]; decide), if_pos hn]]; rfl)
          have HN := Lib.hid hn
          clear hn
          go_wp2_with (fail)
          refine (name_r x.sc false _ HXS.out HN.out).mono ?_
          rintro e1 wn ⟨rfl, hbn⟩
          have HBN := Lib.hid hbn
          clear hbn
          go_wp2_with (fail)
          go_ret
          rw [HR2.out]
          exact ⟨rfl, cur_step1 HB7q.out HBN.out⟩
        have HN := Lib.hid (show nameB x.sc = true by simpa using hn)
        clear hn
        have HA := Lib.hid (show aErr (preA l k) x = chkE x.ev by unfold aErr; rw [if_neg HID.out, if_neg (by rw [HLQ.out]; decide), if_neg (by rw [HN.out]; decide)])
        go_wp2_with (fail)
        refine (name_r x.sc true _ HXS.out HN.out).mono ?_
        rintro e1 wn ⟨rfl, hbn⟩
        have HBN := Lib.hid (cur_step1 HB7q.out hbn)
        have HXN := Lib.hid (show wn.rangeAt wr.heap.size 1 (evE x.ev) from fun j v hv => by
          have hlt : wr.heap.size < W7.heap.size := HX7.out.lt
          refine (hbn.cell (p := ⟨wr.heap.size, 1 + j, none⟩) hlt).trans ?_
          rw [HX7.out.cell]
          exact entE_ev x hv)
        clear hbn
        go_wp2_with (first | (refine wpList_load_mid rfl 38 _ rfl wr.heap.size 1 (by rfl) (evE x.ev) _ HXN.out (by rfl) (by rfl) evt_info3 ?_))
        refine (chre x.ev _).mono ?_
        rintro e1 w9 ⟨rfl, hb9⟩
        have HB9 := Lib.hid (cur_step1 HBN.out hb9)
        clear hb9
        by_cases hc : chkE x.ev = 0
        · rw [hc]
          have HN2 := Lib.hid (show aScan (preA l (k + 1)) (l.drop (k + 1)) = aScan none l by rw [← HSN.out, HNX.out, if_neg (by rw [HA.out, hc]; decide)])
          clear hc
          go_wp2_with (fail)
          exact ⟨⟨k + 1, by omega, by simp, HN2.out, HB9.out⟩, by show l.length - (k + 1) < l.length - k; omega⟩
        · obtain ⟨v, hv⟩ : ∃ v, chkE x.ev = v := ⟨_, rfl⟩
          have gv : (v != 0) = true := by rw [← hv]; simpa using hc
          have HR2 := Lib.hid (show R = v by rw [HRR.out, ← HSN.out, HNX.out, if_pos (by rw [HA.out]; exact hc), HA.out, hv])
          rw [hv]
          clear hc hv
          go_wp2_with (fail)
          go_ret
          rw [HR2.out]
          exact ⟨rfl, HB9.out⟩
      · obtain ⟨q, hq⟩ : ∃ q, k = q + 1 := ⟨k - 1, by omega⟩
        have hi : (k : Int) - 1 = (q : Int) := by omega
        have hql : q < l.length := by omega
        have hkd : decide ((0 : Int) < (k : Int)) = true := decide_eq_true (by omega)
        have hqd : decide ((q : Int) < (l.length : Int)) = true := decide_eq_true (by omega)
        have hqb : (0 : Int) ≤ (q : Int) := by omega
        have hqb2 : (q : Int) < (l.length : Int) := by omega
        have hwr : IntKind.i64.wrap ((k : Int) - 1) = (q : Int) := by (rw [hi]; simp [IntKind.wrap, IntKind.bits, IntKind.signed]; omega)
        obtain ⟨y, hy⟩ : ∃ y, l[q]? = some y := ⟨_, List.getElem?_eq_getElem hql⟩
        obtain ⟨b5, off5, h5, _, hcl5⟩ := HRD.out q y hy
        injection h5 with h5
        injection h5 with h6 h7 _
        subst h6 h7
        have y0 : W6.cell? ⟨b2, off2 + q * 21, none⟩ = some (.int .i64 y.id) := by
          have := hcl5 0 _ rfl
          rw [HB7.out.cell (p := ⟨b2, off2 + q * 21, none⟩) hb2l]
          exact this
        have HLQ := Lib.hid (show leqO (preA l k) x = decide (x.id ≤ y.id) by rw [hq]; simp [preA, hy, leqO])
        have HQ := Lib.hid hq
        clear hcl5 hq hy
        by_cases hle : x.id ≤ y.id
        · have HR2 := Lib.hid (show R = 8 by rw [HRR.out, ← HSN.out, HNX.out, show aErr (preA l k) x = 8 by unfold aErr; rw [if_neg HID.out, if_pos (by rw [HLQ.out]; exact decide_eq_true hle)]]; rfl)
          have i3 : decide (x.id ≤ y.id) = true := decide_eq_true hle
          clear hle
          go_wp2_with (first | (refine wpList_load_mid rfl 40 _ rfl b2 (off2 + k * 21) (by rfl) (entE x) _ HRA.out (by rfl) (by rfl) ent_info ?_) | (refine wpList_storeNew rfl _ _ 40 rfl _ (entE x).toArray ent_info (by rfl) (by rfl) rfl (ent_one _) ?_; rw [S6.out]))
          go_quiet (fail)
          go_wp2_with (fail)
          go_ret
          rw [HR2.out]
          exact ⟨rfl, below_drewN HB7.out _⟩
        · replace HLQ := Lib.hid (show leqO (preA l k) x = false by rw [HLQ.out]; exact decide_eq_false hle)
          have i3 : decide (x.id ≤ y.id) = false := decide_eq_false hle
          clear hle
          go_wp2_with (first | (refine wpList_load_mid rfl 40 _ rfl b2 (off2 + k * 21) (by rfl) (entE x) _ HRA.out (by rfl) (by rfl) ent_info ?_) | (refine wpList_storeNew rfl _ _ 40 rfl _ (entE x).toArray ent_info (by rfl) (by rfl) rfl (ent_one _) ?_; rw [S6.out]))
          go_quiet (fail)
          have HB7q := Lib.hid (below_drewN HB7.out nq)
          have HX7 := Lib.hid (show Blk (W6.drewN nq) wr.heap.size 40 (entE x) from HX6.out)
          have e20q : (W6.drewN nq).cell? ⟨wr.heap.size, 20, none⟩ = some (.string x.sc) := e20
          generalize W6.drewN nq = W7 at HB7q HX7 e20q ⊢
          by_cases hn : nameB x.sc = false
          · have HR2 := Lib.hid (show R = 5 by rw [HRR.out, ← HSN.out, HNX.out, show aErr (preA l k) x = 5 by unfold aErr; rw [if_neg HID.out, if_neg (by rw [HLQ.out]; decide), if_pos hn]]; rfl)
            have HN := Lib.hid hn
            clear hn
            go_wp2_with (fail)
            refine (name_r x.sc false _ HXS.out HN.out).mono ?_
            rintro e1 wn ⟨rfl, hbn⟩
            have HBN := Lib.hid hbn
            clear hbn
            go_wp2_with (fail)
            go_ret
            rw [HR2.out]
            exact ⟨rfl, cur_step1 HB7q.out HBN.out⟩
          have HN := Lib.hid (show nameB x.sc = true by simpa using hn)
          clear hn
          have HA := Lib.hid (show aErr (preA l k) x = chkE x.ev by unfold aErr; rw [if_neg HID.out, if_neg (by rw [HLQ.out]; decide), if_neg (by rw [HN.out]; decide)])
          go_wp2_with (fail)
          refine (name_r x.sc true _ HXS.out HN.out).mono ?_
          rintro e1 wn ⟨rfl, hbn⟩
          have HBN := Lib.hid (cur_step1 HB7q.out hbn)
          have HXN := Lib.hid (show wn.rangeAt wr.heap.size 1 (evE x.ev) from fun j v hv => by
            have hlt : wr.heap.size < W7.heap.size := HX7.out.lt
            refine (hbn.cell (p := ⟨wr.heap.size, 1 + j, none⟩) hlt).trans ?_
            rw [HX7.out.cell]
            exact entE_ev x hv)
          clear hbn
          go_wp2_with (first | (refine wpList_load_mid rfl 38 _ rfl wr.heap.size 1 (by rfl) (evE x.ev) _ HXN.out (by rfl) (by rfl) evt_info3 ?_))
          refine (chre x.ev _).mono ?_
          rintro e1 w9 ⟨rfl, hb9⟩
          have HB9 := Lib.hid (cur_step1 HBN.out hb9)
          clear hb9
          by_cases hc : chkE x.ev = 0
          · rw [hc]
            have HN2 := Lib.hid (show aScan (preA l (k + 1)) (l.drop (k + 1)) = aScan none l by rw [← HSN.out, HNX.out, if_neg (by rw [HA.out, hc]; decide)])
            clear hc
            go_wp2_with (fail)
            exact ⟨⟨k + 1, by omega, by simp, HN2.out, HB9.out⟩, by show l.length - (k + 1) < l.length - k; omega⟩
          · obtain ⟨v, hv⟩ : ∃ v, chkE x.ev = v := ⟨_, rfl⟩
            have gv : (v != 0) = true := by rw [← hv]; simpa using hc
            have HR2 := Lib.hid (show R = v by rw [HRR.out, ← HSN.out, HNX.out, if_pos (by rw [HA.out]; exact hc), HA.out, hv])
            rw [hv]
            clear hc hv
            go_wp2_with (fail)
            go_ret
            rw [HR2.out]
            exact ⟨rfl, HB9.out⟩
    · have hkn : k = l.length := by omega
      have HR2 := Lib.hid (show R = 0 by rw [HRR.out, ← HSN.out, hkn, List.drop_length]; unfold aScan; rfl)
      clear hkn
      go_wp2_with (fail)
      go_ret
      rw [HR2.out]
      exact ⟨rfl, HB.out⟩
end Go.Proofs.YtdbiihfoafoljaaGreatDoor
