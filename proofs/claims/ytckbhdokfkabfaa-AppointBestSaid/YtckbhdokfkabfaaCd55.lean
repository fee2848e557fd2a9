/-
  Chapter 55: the first error of matches: both sides.
-/
import Derived.Test.YtckbhdokfkabfaaLf55
set_option linter.unusedSimpArgs false
set_option linter.unusedVariables false
namespace Go.Proofs.Ytckbhdokfkabfaa
open Go.RowKit
set_option maxRecDepth 100000
set_option maxHeartbeats 4000000
theorem cd_p (A : Option Addr) (c : Nat) (M : List Dty) (r : Int) (w : World) (hl : M.length ≤ 1000) (hr : Rd dtE 4 w w.heap.size A M) (hsz : ∀ x ∈ M, DtS x) (hv : ckD M = r) :
    Calls Try.prog 27 #[.slice A M.length c] w fun e w' => e = .returned (.int .i64 r) ∧ Below w.heap.size w w' := by
  have HV := Lib.hid hv
  have HR := Lib.hid hr
  have HSZ := Lib.hid hsz
  clear hr hv hsz
  go_enter Try.func27, Try.ntmps27
  go_wp2_with fail
  go_loopw [7] (fun i wr => ∃ k : Nat, k ≤ M.length ∧ i = .int .i64 k ∧ (∀ j, j < k → dErr M j = 0) ∧ Below w.heap.size w wr) (fun i _ => M.length - (intOf i).toNat)
  case atStart => exact ⟨0, by omega, rfl, by intro j h; omega, Below.refl _ _⟩
  case round =>
    obtain ⟨k, hk, rfl, hno, hB⟩ := hrel
    have HNO := Lib.hid hno
    have HB0 := Lib.hid hB
    clear hno hB
    by_cases hlt2 : k < M.length
    · obtain ⟨⟨xm, xd, xh, xa⟩, hx⟩ : ∃ x, M[k]? = some x := ⟨_, List.getElem?_eq_getElem hlt2⟩
      obtain ⟨b, off, rfl, hbb, hcl⟩ := HR.out.at_ HB0.out hx
      obtain ⟨c0, c1, c2, c3⟩ := dt_cells hcl
      dsimp only at c0 c1 c2 c3
      have HT := Lib.hid (show dErr M k = errD M k ⟨xm, xd, xh, xa⟩ by simp [dErr, hx])
      have HS := Lib.hid (HSZ.out _ (List.mem_of_getElem? hx))
      have hbl : b < wr.heap.size := by have := HB0.out.size; omega
      clear hcl hx
      have FIN := Lib.hid (show ∀ q : Int, dErr M k = q → q ≠ 0 → q = r from fun q h1 h2 => by
        rw [← HV.out]; unfold ckD; rw [res_of HNO.out hlt2 (by rw [h1]; exact h2), h1])
      have NXT := Lib.hid (show dErr M k = 0 → ∀ j, j < k + 1 → dErr M j = 0 from fun h j hj => by
        by_cases e : j = k
        · rw [e]; exact h
        · exact HNO.out j (by omega))
      cases h1 : decide (xm < 1)
      · cases h2 : decide (1000000 < xm)
        · cases hd : isDayB xd
          · have HE := Lib.hid (FIN.out 2 (by rw [HT.out]; simp only [errD, h1, h2, hd]; rfl) (by decide))
            have HD := Lib.hid hd
            clear hd
            go_wp2_with fail
            obtain ⟨g, hg⟩ : ∃ g, g = wr.heap.size := ⟨_, rfl⟩
            have hbx := cur_new wr (.cells #[.int .i64 xm, .int .i64 xd, .string xh, .string xa] 29)
            have hbk := Blk.new wr 29 [.int .i64 xm, .int .i64 xd, .string xh, .string xa]
            generalize wr.alloc (Obj.cells #[.int .i64 xm, .int .i64 xd, .string xh, .string xa] 29) = wn at hbx hbk ⊢
            rw [← hg] at hbk ⊢
            have hgl := hbk.lt
            have HB := Lib.hid (cur_step1 HB0.out hbx)
            have HK := Lib.hid (show Keep w wn [(g, 0, .int .i64 xm), (g, 1, .int .i64 xd), (g, 2, .string xh), (g, 3, .string xa)] from ⟨HB.out, fun c hc => by simp at hc; rcases hc with rfl | rfl | rfl | rfl <;> exact ⟨hgl, hbk.cell _⟩⟩)
            have d0 : wn.cell? ⟨g, 0, none⟩ = some (.int .i64 xm) := HK.out.get (by simp)
            have d1 : wn.cell? ⟨g, 1, none⟩ = some (.int .i64 xd) := HK.out.get (by simp)
            have d2 : wn.cell? ⟨g, 2, none⟩ = some (.string xh) := HK.out.get (by simp)
            have d3 : wn.cell? ⟨g, 3, none⟩ = some (.string xa) := HK.out.get (by simp)
            have hgl := HK.out.lt (b := g) (o := 0) (v := .int .i64 xm) (by simp)
            have hgb : b < g := by rw [hg]; exact hbl
            clear hbx hbk hg c0 c1 c2 c3
            go_wp2_with (first
              | (go_at_call 52; refine (name_p xh _ _ HS.out.1 HN1.out).mono ?_; rintro e wn ⟨rfl, hbn⟩; replace HB := Lib.hid (cur_step1 HB.out hbn); replace HK := Lib.hid (HK.out.to hbn); have d0 : wn.cell? ⟨g, 0, none⟩ = some (.int .i64 xm) := HK.out.get (by simp); have d1 : wn.cell? ⟨g, 1, none⟩ = some (.int .i64 xd) := HK.out.get (by simp); have d2 : wn.cell? ⟨g, 2, none⟩ = some (.string xh) := HK.out.get (by simp); have d3 : wn.cell? ⟨g, 3, none⟩ = some (.string xa) := HK.out.get (by simp); have hgl := HK.out.lt (b := g) (o := 0) (v := .int .i64 xm) (by simp); clear hbn; clear HN1)
              | (go_at_call 52; refine (name_p xa _ _ HS.out.2 HN2.out).mono ?_; rintro e wn ⟨rfl, hbn⟩; replace HB := Lib.hid (cur_step1 HB.out hbn); replace HK := Lib.hid (HK.out.to hbn); have d0 : wn.cell? ⟨g, 0, none⟩ = some (.int .i64 xm) := HK.out.get (by simp); have d1 : wn.cell? ⟨g, 1, none⟩ = some (.int .i64 xd) := HK.out.get (by simp); have d2 : wn.cell? ⟨g, 2, none⟩ = some (.string xh) := HK.out.get (by simp); have d3 : wn.cell? ⟨g, 3, none⟩ = some (.string xa) := HK.out.get (by simp); have hgl := HK.out.lt (b := g) (o := 0) (v := .int .i64 xm) (by simp); clear hbn; clear HN2)
              | (go_at_call 51; refine (isDay_p _ _ _ HD.out).mono ?_; rintro e wn ⟨rfl, rfl⟩))
            go_ret
            exact ⟨ret_int HE.out, HB.out⟩
          · cases hn1 : nameB xh
            · have HE := Lib.hid (FIN.out 5 (by rw [HT.out]; simp only [errD, h1, h2, hd, hn1]; rfl) (by decide))
              have HD := Lib.hid hd
              have HN1 := Lib.hid hn1
              clear hd hn1
              go_wp2_with fail
              obtain ⟨g, hg⟩ : ∃ g, g = wr.heap.size := ⟨_, rfl⟩
              have hbx := cur_new wr (.cells #[.int .i64 xm, .int .i64 xd, .string xh, .string xa] 29)
              have hbk := Blk.new wr 29 [.int .i64 xm, .int .i64 xd, .string xh, .string xa]
              generalize wr.alloc (Obj.cells #[.int .i64 xm, .int .i64 xd, .string xh, .string xa] 29) = wn at hbx hbk ⊢
              rw [← hg] at hbk ⊢
              have hgl := hbk.lt
              have HB := Lib.hid (cur_step1 HB0.out hbx)
              have HK := Lib.hid (show Keep w wn [(g, 0, .int .i64 xm), (g, 1, .int .i64 xd), (g, 2, .string xh), (g, 3, .string xa)] from ⟨HB.out, fun c hc => by simp at hc; rcases hc with rfl | rfl | rfl | rfl <;> exact ⟨hgl, hbk.cell _⟩⟩)
              have d0 : wn.cell? ⟨g, 0, none⟩ = some (.int .i64 xm) := HK.out.get (by simp)
              have d1 : wn.cell? ⟨g, 1, none⟩ = some (.int .i64 xd) := HK.out.get (by simp)
              have d2 : wn.cell? ⟨g, 2, none⟩ = some (.string xh) := HK.out.get (by simp)
              have d3 : wn.cell? ⟨g, 3, none⟩ = some (.string xa) := HK.out.get (by simp)
              have hgl := HK.out.lt (b := g) (o := 0) (v := .int .i64 xm) (by simp)
              have hgb : b < g := by rw [hg]; exact hbl
              clear hbx hbk hg c0 c1 c2 c3
              go_wp2_with (first
                | (go_at_call 52; refine (name_p xh _ _ HS.out.1 HN1.out).mono ?_; rintro e wn ⟨rfl, hbn⟩; replace HB := Lib.hid (cur_step1 HB.out hbn); replace HK := Lib.hid (HK.out.to hbn); have d0 : wn.cell? ⟨g, 0, none⟩ = some (.int .i64 xm) := HK.out.get (by simp); have d1 : wn.cell? ⟨g, 1, none⟩ = some (.int .i64 xd) := HK.out.get (by simp); have d2 : wn.cell? ⟨g, 2, none⟩ = some (.string xh) := HK.out.get (by simp); have d3 : wn.cell? ⟨g, 3, none⟩ = some (.string xa) := HK.out.get (by simp); have hgl := HK.out.lt (b := g) (o := 0) (v := .int .i64 xm) (by simp); clear hbn; clear HN1)
                | (go_at_call 52; refine (name_p xa _ _ HS.out.2 HN2.out).mono ?_; rintro e wn ⟨rfl, hbn⟩; replace HB := Lib.hid (cur_step1 HB.out hbn); replace HK := Lib.hid (HK.out.to hbn); have d0 : wn.cell? ⟨g, 0, none⟩ = some (.int .i64 xm) := HK.out.get (by simp); have d1 : wn.cell? ⟨g, 1, none⟩ = some (.int .i64 xd) := HK.out.get (by simp); have d2 : wn.cell? ⟨g, 2, none⟩ = some (.string xh) := HK.out.get (by simp); have d3 : wn.cell? ⟨g, 3, none⟩ = some (.string xa) := HK.out.get (by simp); have hgl := HK.out.lt (b := g) (o := 0) (v := .int .i64 xm) (by simp); clear hbn; clear HN2)
                | (go_at_call 51; refine (isDay_p _ _ _ HD.out).mono ?_; rintro e wn ⟨rfl, rfl⟩))
              go_ret
              exact ⟨ret_int HE.out, HB.out⟩
            · cases hn2 : nameB xa
              · have HE := Lib.hid (FIN.out 5 (by rw [HT.out]; simp only [errD, h1, h2, hd, hn1, hn2]; rfl) (by decide))
                have HD := Lib.hid hd
                have HN1 := Lib.hid hn1
                have HN2 := Lib.hid hn2
                clear hd hn1 hn2
                go_wp2_with fail
                obtain ⟨g, hg⟩ : ∃ g, g = wr.heap.size := ⟨_, rfl⟩
                have hbx := cur_new wr (.cells #[.int .i64 xm, .int .i64 xd, .string xh, .string xa] 29)
                have hbk := Blk.new wr 29 [.int .i64 xm, .int .i64 xd, .string xh, .string xa]
                generalize wr.alloc (Obj.cells #[.int .i64 xm, .int .i64 xd, .string xh, .string xa] 29) = wn at hbx hbk ⊢
                rw [← hg] at hbk ⊢
                have hgl := hbk.lt
                have HB := Lib.hid (cur_step1 HB0.out hbx)
                have HK := Lib.hid (show Keep w wn [(g, 0, .int .i64 xm), (g, 1, .int .i64 xd), (g, 2, .string xh), (g, 3, .string xa)] from ⟨HB.out, fun c hc => by simp at hc; rcases hc with rfl | rfl | rfl | rfl <;> exact ⟨hgl, hbk.cell _⟩⟩)
                have d0 : wn.cell? ⟨g, 0, none⟩ = some (.int .i64 xm) := HK.out.get (by simp)
                have d1 : wn.cell? ⟨g, 1, none⟩ = some (.int .i64 xd) := HK.out.get (by simp)
                have d2 : wn.cell? ⟨g, 2, none⟩ = some (.string xh) := HK.out.get (by simp)
                have d3 : wn.cell? ⟨g, 3, none⟩ = some (.string xa) := HK.out.get (by simp)
                have hgl := HK.out.lt (b := g) (o := 0) (v := .int .i64 xm) (by simp)
                have hgb : b < g := by rw [hg]; exact hbl
                clear hbx hbk hg c0 c1 c2 c3
                go_wp2_with (first
                  | (go_at_call 52; refine (name_p xh _ _ HS.out.1 HN1.out).mono ?_; rintro e wn ⟨rfl, hbn⟩; replace HB := Lib.hid (cur_step1 HB.out hbn); replace HK := Lib.hid (HK.out.to hbn); have d0 : wn.cell? ⟨g, 0, none⟩ = some (.int .i64 xm) := HK.out.get (by simp); have d1 : wn.cell? ⟨g, 1, none⟩ = some (.int .i64 xd) := HK.out.get (by simp); have d2 : wn.cell? ⟨g, 2, none⟩ = some (.string xh) := HK.out.get (by simp); have d3 : wn.cell? ⟨g, 3, none⟩ = some (.string xa) := HK.out.get (by simp); have hgl := HK.out.lt (b := g) (o := 0) (v := .int .i64 xm) (by simp); clear hbn; clear HN1)
                  | (go_at_call 52; refine (name_p xa _ _ HS.out.2 HN2.out).mono ?_; rintro e wn ⟨rfl, hbn⟩; replace HB := Lib.hid (cur_step1 HB.out hbn); replace HK := Lib.hid (HK.out.to hbn); have d0 : wn.cell? ⟨g, 0, none⟩ = some (.int .i64 xm) := HK.out.get (by simp); have d1 : wn.cell? ⟨g, 1, none⟩ = some (.int .i64 xd) := HK.out.get (by simp); have d2 : wn.cell? ⟨g, 2, none⟩ = some (.string xh) := HK.out.get (by simp); have d3 : wn.cell? ⟨g, 3, none⟩ = some (.string xa) := HK.out.get (by simp); have hgl := HK.out.lt (b := g) (o := 0) (v := .int .i64 xm) (by simp); clear hbn; clear HN2)
                  | (go_at_call 51; refine (isDay_p _ _ _ HD.out).mono ?_; rintro e wn ⟨rfl, rfl⟩))
                go_ret
                exact ⟨ret_int HE.out, HB.out⟩
              · cases hs : seq xh xa
                · rcases Nat.eq_zero_or_pos k with hk0 | hk0
                  · subst hk0
                    have HE := Lib.hid (show dErr M 0 = 0 by rw [HT.out]; simp only [errD, befD, h1, h2, hd, hn1, hn2, hs]; rfl)
                    simp only [Nat.zero_mul, Nat.add_zero] at c0 c1 c2 c3
                    have HD := Lib.hid hd
                    have HN1 := Lib.hid hn1
                    have HN2 := Lib.hid hn2
                    have es := seq_to xh xa
                    rw [hs] at es
                    clear hd hn1 hn2 hs
                    go_wp2_with fail
                    obtain ⟨g, hg⟩ : ∃ g, g = wr.heap.size := ⟨_, rfl⟩
                    have hbx := cur_new wr (.cells #[.int .i64 xm, .int .i64 xd, .string xh, .string xa] 29)
                    have hbk := Blk.new wr 29 [.int .i64 xm, .int .i64 xd, .string xh, .string xa]
                    generalize wr.alloc (Obj.cells #[.int .i64 xm, .int .i64 xd, .string xh, .string xa] 29) = wn at hbx hbk ⊢
                    rw [← hg] at hbk ⊢
                    have hgl := hbk.lt
                    have HB := Lib.hid (cur_step1 HB0.out hbx)
                    have HK := Lib.hid (show Keep w wn [(g, 0, .int .i64 xm), (g, 1, .int .i64 xd), (g, 2, .string xh), (g, 3, .string xa)] from ⟨HB.out, fun c hc => by simp at hc; rcases hc with rfl | rfl | rfl | rfl <;> exact ⟨hgl, hbk.cell _⟩⟩)
                    have d0 : wn.cell? ⟨g, 0, none⟩ = some (.int .i64 xm) := HK.out.get (by simp)
                    have d1 : wn.cell? ⟨g, 1, none⟩ = some (.int .i64 xd) := HK.out.get (by simp)
                    have d2 : wn.cell? ⟨g, 2, none⟩ = some (.string xh) := HK.out.get (by simp)
                    have d3 : wn.cell? ⟨g, 3, none⟩ = some (.string xa) := HK.out.get (by simp)
                    have hgl := HK.out.lt (b := g) (o := 0) (v := .int .i64 xm) (by simp)
                    have hgb : b < g := by rw [hg]; exact hbl
                    clear hbx hbk hg c0 c1 c2 c3
                    go_wp2_with (first
                      | (go_at_call 52; refine (name_p xh _ _ HS.out.1 HN1.out).mono ?_; rintro e wn ⟨rfl, hbn⟩; replace HB := Lib.hid (cur_step1 HB.out hbn); replace HK := Lib.hid (HK.out.to hbn); have d0 : wn.cell? ⟨g, 0, none⟩ = some (.int .i64 xm) := HK.out.get (by simp); have d1 : wn.cell? ⟨g, 1, none⟩ = some (.int .i64 xd) := HK.out.get (by simp); have d2 : wn.cell? ⟨g, 2, none⟩ = some (.string xh) := HK.out.get (by simp); have d3 : wn.cell? ⟨g, 3, none⟩ = some (.string xa) := HK.out.get (by simp); have hgl := HK.out.lt (b := g) (o := 0) (v := .int .i64 xm) (by simp); clear hbn; clear HN1)
                      | (go_at_call 52; refine (name_p xa _ _ HS.out.2 HN2.out).mono ?_; rintro e wn ⟨rfl, hbn⟩; replace HB := Lib.hid (cur_step1 HB.out hbn); replace HK := Lib.hid (HK.out.to hbn); have d0 : wn.cell? ⟨g, 0, none⟩ = some (.int .i64 xm) := HK.out.get (by simp); have d1 : wn.cell? ⟨g, 1, none⟩ = some (.int .i64 xd) := HK.out.get (by simp); have d2 : wn.cell? ⟨g, 2, none⟩ = some (.string xh) := HK.out.get (by simp); have d3 : wn.cell? ⟨g, 3, none⟩ = some (.string xa) := HK.out.get (by simp); have hgl := HK.out.lt (b := g) (o := 0) (v := .int .i64 xm) (by simp); clear hbn; clear HN2)
                      | (go_at_call 51; refine (isDay_p _ _ _ HD.out).mono ?_; rintro e wn ⟨rfl, rfl⟩))
                    go_quiet (fail)
                    go_wp2_with fail
                    go_roundw
                    case rel => exact ⟨0 + 1, hlt2, by simp, NXT.out HE.out, below_drewN HB.out _⟩
                    case measure => simp [intOf] <;> omega
                  · obtain ⟨q, hq⟩ : ∃ q, k = q + 1 := ⟨k - 1, by omega⟩
                    have hi : (k : Int) - 1 = (q : Int) := by omega
                    have hql : q < M.length := by omega
                    obtain ⟨y, hy⟩ : ∃ y, M[q]? = some y := ⟨_, List.getElem?_eq_getElem hql⟩
                    have hkd : decide ((0 : Int) < (k : Int)) = true := decide_eq_true (by omega)
                    have hqd : decide ((q : Int) < (M.length : Int)) = true := decide_eq_true (by omega)
                    have HBW := Lib.hid (show befD M k ⟨xm, xd, xh, xa⟩ = decide (xm ≤ y.m) by rw [hq]; simp [befD, hy])
                    obtain ⟨b5, off5, h5, _, hcl5⟩ := HR.out.at_ HB0.out hy
                    injection h5 with h5
                    injection h5 with h6 h7 _
                    subst h6 h7
                    obtain ⟨cy, _, _, _⟩ := dt_cells hcl5
                    have HCY := Lib.hid cy
                    have HQ := Lib.hid hq
                    clear hq hcl5 hy cy
                    cases h4 : decide (xm ≤ y.m)
                    · have HE := Lib.hid (show dErr M k = 0 by rw [HT.out]; simp only [errD, HBW.out, h4, h1, h2, hd, hn1, hn2, hs]; rfl)
                      have HD := Lib.hid hd
                      have HN1 := Lib.hid hn1
                      have HN2 := Lib.hid hn2
                      have es := seq_to xh xa
                      rw [hs] at es
                      clear hd hn1 hn2 hs
                      go_wp2_with fail
                      obtain ⟨g, hg⟩ : ∃ g, g = wr.heap.size := ⟨_, rfl⟩
                      have hbx := cur_new wr (.cells #[.int .i64 xm, .int .i64 xd, .string xh, .string xa] 29)
                      have hbk := Blk.new wr 29 [.int .i64 xm, .int .i64 xd, .string xh, .string xa]
                      generalize wr.alloc (Obj.cells #[.int .i64 xm, .int .i64 xd, .string xh, .string xa] 29) = wn at hbx hbk ⊢
                      rw [← hg] at hbk ⊢
                      have hgl := hbk.lt
                      have HB := Lib.hid (cur_step1 HB0.out hbx)
                      have HK := Lib.hid (show Keep w wn [(g, 0, .int .i64 xm), (g, 1, .int .i64 xd), (g, 2, .string xh), (g, 3, .string xa)] from ⟨HB.out, fun c hc => by simp at hc; rcases hc with rfl | rfl | rfl | rfl <;> exact ⟨hgl, hbk.cell _⟩⟩)
                      have d0 : wn.cell? ⟨g, 0, none⟩ = some (.int .i64 xm) := HK.out.get (by simp)
                      have d1 : wn.cell? ⟨g, 1, none⟩ = some (.int .i64 xd) := HK.out.get (by simp)
                      have d2 : wn.cell? ⟨g, 2, none⟩ = some (.string xh) := HK.out.get (by simp)
                      have d3 : wn.cell? ⟨g, 3, none⟩ = some (.string xa) := HK.out.get (by simp)
                      have hgl := HK.out.lt (b := g) (o := 0) (v := .int .i64 xm) (by simp)
                      have hgb : b < g := by rw [hg]; exact hbl
                      have HK2 := Lib.hid (show Keep w wn [(b, off + q * 4, .int .i64 y.m)] from ⟨HB.out, fun c hc => by simp at hc; rcases hc with rfl; exact ⟨Nat.lt_of_lt_of_le hbl hbx.size, (hbx.cell (p := ⟨b, off + q * 4, none⟩) hbl).trans HCY.out⟩⟩)
                      have cy : wn.cell? ⟨b, off + q * 4, none⟩ = some (.int .i64 y.m) := HK2.out.get (by simp)
                      clear hbx hbk hg c0 c1 c2 c3
                      go_wp2_with (first
                        | (go_at_call 52; refine (name_p xh _ _ HS.out.1 HN1.out).mono ?_; rintro e wn ⟨rfl, hbn⟩; replace HB := Lib.hid (cur_step1 HB.out hbn); replace HK := Lib.hid (HK.out.to hbn); have d0 : wn.cell? ⟨g, 0, none⟩ = some (.int .i64 xm) := HK.out.get (by simp); have d1 : wn.cell? ⟨g, 1, none⟩ = some (.int .i64 xd) := HK.out.get (by simp); have d2 : wn.cell? ⟨g, 2, none⟩ = some (.string xh) := HK.out.get (by simp); have d3 : wn.cell? ⟨g, 3, none⟩ = some (.string xa) := HK.out.get (by simp); have hgl := HK.out.lt (b := g) (o := 0) (v := .int .i64 xm) (by simp); replace HK2 := Lib.hid (HK2.out.to hbn); have cy : wn.cell? ⟨b, off + q * 4, none⟩ = some (.int .i64 y.m) := HK2.out.get (by simp); have hbl2 := HK2.out.lt (b := b) (o := off + q * 4) (v := .int .i64 y.m) (by simp); clear hbn; clear HN1)
                        | (go_at_call 52; refine (name_p xa _ _ HS.out.2 HN2.out).mono ?_; rintro e wn ⟨rfl, hbn⟩; replace HB := Lib.hid (cur_step1 HB.out hbn); replace HK := Lib.hid (HK.out.to hbn); have d0 : wn.cell? ⟨g, 0, none⟩ = some (.int .i64 xm) := HK.out.get (by simp); have d1 : wn.cell? ⟨g, 1, none⟩ = some (.int .i64 xd) := HK.out.get (by simp); have d2 : wn.cell? ⟨g, 2, none⟩ = some (.string xh) := HK.out.get (by simp); have d3 : wn.cell? ⟨g, 3, none⟩ = some (.string xa) := HK.out.get (by simp); have hgl := HK.out.lt (b := g) (o := 0) (v := .int .i64 xm) (by simp); replace HK2 := Lib.hid (HK2.out.to hbn); have cy : wn.cell? ⟨b, off + q * 4, none⟩ = some (.int .i64 y.m) := HK2.out.get (by simp); have hbl2 := HK2.out.lt (b := b) (o := off + q * 4) (v := .int .i64 y.m) (by simp); clear hbn; clear HN2)
                        | (go_at_call 51; refine (isDay_p _ _ _ HD.out).mono ?_; rintro e wn ⟨rfl, rfl⟩))
                      go_quiet (fail)
                      go_wp2_with fail
                      go_roundw
                      case rel => exact ⟨k + 1, hlt2, by simp, NXT.out HE.out, below_drewN HB.out _⟩
                      case measure => simp [intOf] <;> omega
                    · have HE := Lib.hid (FIN.out 8 (by rw [HT.out]; simp only [errD, HBW.out, h4, h1, h2, hd, hn1, hn2, hs]; rfl) (by decide))
                      have HD := Lib.hid hd
                      have HN1 := Lib.hid hn1
                      have HN2 := Lib.hid hn2
                      have es := seq_to xh xa
                      rw [hs] at es
                      clear hd hn1 hn2 hs
                      go_wp2_with fail
                      obtain ⟨g, hg⟩ : ∃ g, g = wr.heap.size := ⟨_, rfl⟩
                      have hbx := cur_new wr (.cells #[.int .i64 xm, .int .i64 xd, .string xh, .string xa] 29)
                      have hbk := Blk.new wr 29 [.int .i64 xm, .int .i64 xd, .string xh, .string xa]
                      generalize wr.alloc (Obj.cells #[.int .i64 xm, .int .i64 xd, .string xh, .string xa] 29) = wn at hbx hbk ⊢
                      rw [← hg] at hbk ⊢
                      have hgl := hbk.lt
                      have HB := Lib.hid (cur_step1 HB0.out hbx)
                      have HK := Lib.hid (show Keep w wn [(g, 0, .int .i64 xm), (g, 1, .int .i64 xd), (g, 2, .string xh), (g, 3, .string xa)] from ⟨HB.out, fun c hc => by simp at hc; rcases hc with rfl | rfl | rfl | rfl <;> exact ⟨hgl, hbk.cell _⟩⟩)
                      have d0 : wn.cell? ⟨g, 0, none⟩ = some (.int .i64 xm) := HK.out.get (by simp)
                      have d1 : wn.cell? ⟨g, 1, none⟩ = some (.int .i64 xd) := HK.out.get (by simp)
                      have d2 : wn.cell? ⟨g, 2, none⟩ = some (.string xh) := HK.out.get (by simp)
                      have d3 : wn.cell? ⟨g, 3, none⟩ = some (.string xa) := HK.out.get (by simp)
                      have hgl := HK.out.lt (b := g) (o := 0) (v := .int .i64 xm) (by simp)
                      have hgb : b < g := by rw [hg]; exact hbl
                      have HK2 := Lib.hid (show Keep w wn [(b, off + q * 4, .int .i64 y.m)] from ⟨HB.out, fun c hc => by simp at hc; rcases hc with rfl; exact ⟨Nat.lt_of_lt_of_le hbl hbx.size, (hbx.cell (p := ⟨b, off + q * 4, none⟩) hbl).trans HCY.out⟩⟩)
                      have cy : wn.cell? ⟨b, off + q * 4, none⟩ = some (.int .i64 y.m) := HK2.out.get (by simp)
                      clear hbx hbk hg c0 c1 c2 c3
                      go_wp2_with (first
                        | (go_at_call 52; refine (name_p xh _ _ HS.out.1 HN1.out).mono ?_; rintro e wn ⟨rfl, hbn⟩; replace HB := Lib.hid (cur_step1 HB.out hbn); replace HK := Lib.hid (HK.out.to hbn); have d0 : wn.cell? ⟨g, 0, none⟩ = some (.int .i64 xm) := HK.out.get (by simp); have d1 : wn.cell? ⟨g, 1, none⟩ = some (.int .i64 xd) := HK.out.get (by simp); have d2 : wn.cell? ⟨g, 2, none⟩ = some (.string xh) := HK.out.get (by simp); have d3 : wn.cell? ⟨g, 3, none⟩ = some (.string xa) := HK.out.get (by simp); have hgl := HK.out.lt (b := g) (o := 0) (v := .int .i64 xm) (by simp); replace HK2 := Lib.hid (HK2.out.to hbn); have cy : wn.cell? ⟨b, off + q * 4, none⟩ = some (.int .i64 y.m) := HK2.out.get (by simp); have hbl2 := HK2.out.lt (b := b) (o := off + q * 4) (v := .int .i64 y.m) (by simp); clear hbn; clear HN1)
                        | (go_at_call 52; refine (name_p xa _ _ HS.out.2 HN2.out).mono ?_; rintro e wn ⟨rfl, hbn⟩; replace HB := Lib.hid (cur_step1 HB.out hbn); replace HK := Lib.hid (HK.out.to hbn); have d0 : wn.cell? ⟨g, 0, none⟩ = some (.int .i64 xm) := HK.out.get (by simp); have d1 : wn.cell? ⟨g, 1, none⟩ = some (.int .i64 xd) := HK.out.get (by simp); have d2 : wn.cell? ⟨g, 2, none⟩ = some (.string xh) := HK.out.get (by simp); have d3 : wn.cell? ⟨g, 3, none⟩ = some (.string xa) := HK.out.get (by simp); have hgl := HK.out.lt (b := g) (o := 0) (v := .int .i64 xm) (by simp); replace HK2 := Lib.hid (HK2.out.to hbn); have cy : wn.cell? ⟨b, off + q * 4, none⟩ = some (.int .i64 y.m) := HK2.out.get (by simp); have hbl2 := HK2.out.lt (b := b) (o := off + q * 4) (v := .int .i64 y.m) (by simp); clear hbn; clear HN2)
                        | (go_at_call 51; refine (isDay_p _ _ _ HD.out).mono ?_; rintro e wn ⟨rfl, rfl⟩))
                      go_quiet (fail)
                      go_wp2_with fail
                      go_ret
                      exact ⟨ret_int HE.out, below_drewN HB.out _⟩
                · have HE := Lib.hid (FIN.out 1 (by rw [HT.out]; simp only [errD, h1, h2, hd, hn1, hn2, hs]; rfl) (by decide))
                  have HD := Lib.hid hd
                  have HN1 := Lib.hid hn1
                  have HN2 := Lib.hid hn2
                  have es := seq_to xh xa
                  rw [hs] at es
                  clear hd hn1 hn2 hs
                  go_wp2_with fail
                  obtain ⟨g, hg⟩ : ∃ g, g = wr.heap.size := ⟨_, rfl⟩
                  have hbx := cur_new wr (.cells #[.int .i64 xm, .int .i64 xd, .string xh, .string xa] 29)
                  have hbk := Blk.new wr 29 [.int .i64 xm, .int .i64 xd, .string xh, .string xa]
                  generalize wr.alloc (Obj.cells #[.int .i64 xm, .int .i64 xd, .string xh, .string xa] 29) = wn at hbx hbk ⊢
                  rw [← hg] at hbk ⊢
                  have hgl := hbk.lt
                  have HB := Lib.hid (cur_step1 HB0.out hbx)
                  have HK := Lib.hid (show Keep w wn [(g, 0, .int .i64 xm), (g, 1, .int .i64 xd), (g, 2, .string xh), (g, 3, .string xa)] from ⟨HB.out, fun c hc => by simp at hc; rcases hc with rfl | rfl | rfl | rfl <;> exact ⟨hgl, hbk.cell _⟩⟩)
                  have d0 : wn.cell? ⟨g, 0, none⟩ = some (.int .i64 xm) := HK.out.get (by simp)
                  have d1 : wn.cell? ⟨g, 1, none⟩ = some (.int .i64 xd) := HK.out.get (by simp)
                  have d2 : wn.cell? ⟨g, 2, none⟩ = some (.string xh) := HK.out.get (by simp)
                  have d3 : wn.cell? ⟨g, 3, none⟩ = some (.string xa) := HK.out.get (by simp)
                  have hgl := HK.out.lt (b := g) (o := 0) (v := .int .i64 xm) (by simp)
                  have hgb : b < g := by rw [hg]; exact hbl
                  clear hbx hbk hg c0 c1 c2 c3
                  go_wp2_with (first
                    | (go_at_call 52; refine (name_p xh _ _ HS.out.1 HN1.out).mono ?_; rintro e wn ⟨rfl, hbn⟩; replace HB := Lib.hid (cur_step1 HB.out hbn); replace HK := Lib.hid (HK.out.to hbn); have d0 : wn.cell? ⟨g, 0, none⟩ = some (.int .i64 xm) := HK.out.get (by simp); have d1 : wn.cell? ⟨g, 1, none⟩ = some (.int .i64 xd) := HK.out.get (by simp); have d2 : wn.cell? ⟨g, 2, none⟩ = some (.string xh) := HK.out.get (by simp); have d3 : wn.cell? ⟨g, 3, none⟩ = some (.string xa) := HK.out.get (by simp); have hgl := HK.out.lt (b := g) (o := 0) (v := .int .i64 xm) (by simp); clear hbn; clear HN1)
                    | (go_at_call 52; refine (name_p xa _ _ HS.out.2 HN2.out).mono ?_; rintro e wn ⟨rfl, hbn⟩; replace HB := Lib.hid (cur_step1 HB.out hbn); replace HK := Lib.hid (HK.out.to hbn); have d0 : wn.cell? ⟨g, 0, none⟩ = some (.int .i64 xm) := HK.out.get (by simp); have d1 : wn.cell? ⟨g, 1, none⟩ = some (.int .i64 xd) := HK.out.get (by simp); have d2 : wn.cell? ⟨g, 2, none⟩ = some (.string xh) := HK.out.get (by simp); have d3 : wn.cell? ⟨g, 3, none⟩ = some (.string xa) := HK.out.get (by simp); have hgl := HK.out.lt (b := g) (o := 0) (v := .int .i64 xm) (by simp); clear hbn; clear HN2)
                    | (go_at_call 51; refine (isDay_p _ _ _ HD.out).mono ?_; rintro e wn ⟨rfl, rfl⟩))
                  go_ret
                  exact ⟨ret_int HE.out, HB.out⟩
        · have HE := Lib.hid (FIN.out 2 (by rw [HT.out]; simp only [errD, h1, h2]; rfl) (by decide))
          go_wp2_with fail
          go_ret
          exact ⟨ret_int HE.out, cur_step1 HB0.out (cur_new _ _)⟩
      · have HE := Lib.hid (FIN.out 2 (by rw [HT.out]; simp only [errD, h1]; rfl) (by decide))
        go_wp2_with fail
        go_ret
        exact ⟨ret_int HE.out, cur_step1 HB0.out (cur_new _ _)⟩
    · have hke := Lib.hid (show k = M.length by omega)
      have HE := Lib.hid (show (0 : Int) = r by rw [← HV.out]; unfold ckD; rw [res_end (by rw [← hke.out]; exact HNO.out)])
      go_wp2_with fail
      go_ret
      exact ⟨ret_int HE.out, HB0.out⟩
theorem cd_r (A : Option Addr) (c : Nat) (M : List Dty) (k : Nat) (x : Dty) (r : Int) (w : World) (hl : M.length ≤ 1000) (hr : Rd dtE 4 w w.heap.size A M) (hx : M[k]? = some x) (hsz : DtS x) (hv : errD M k x = r) :
    Calls Try.prog 29 #[.slice A M.length c, .int .i64 k] w fun e w' => e = .returned (.int .i64 r) ∧ Below w.heap.size w w' := by
  obtain ⟨xm, xd, xh, xa⟩ := x
  have HV := Lib.hid hv
  have HR := Lib.hid hr
  have HS := Lib.hid hsz
  obtain ⟨wr, hwr⟩ : ∃ wr, w = wr := ⟨_, rfl⟩
  subst hwr
  have HB0 := Lib.hid (Below.refl w.heap.size w)
  have hlt2 : k < M.length := (List.getElem?_eq_some_iff.1 hx).1
  obtain ⟨b, off, rfl, hbb, hcl⟩ := hr.at_ HB0.out hx
  obtain ⟨c0, c1, c2, c3⟩ := dt_cells hcl
  dsimp only at c0 c1 c2 c3
  have HT := Lib.hid (show dErr M k = errD M k ⟨xm, xd, xh, xa⟩ by simp [dErr, hx])
  have hbl := hbb
  have FIN := Lib.hid (show ∀ q : Int, dErr M k = q → q = r from fun q h1 => by rw [← h1, HT.out, HV.out])
  clear hcl hx hr hv hsz
  go_enter Try.func29, Try.ntmps29
  cases h1 : decide (xm < 1)
  · cases h2 : decide (1000000 < xm)
    · cases hd : isDayB xd
      · have HE := Lib.hid (FIN.out 2 (by rw [HT.out]; simp only [errD, h1, h2, hd]; rfl))
        have HD := Lib.hid hd
        clear hd
        go_wp2_with fail
        obtain ⟨g, hg⟩ : ∃ g, g = w.heap.size := ⟨_, rfl⟩
        have hbx := cur_new w (.cells #[.int .i64 xm, .int .i64 xd, .string xh, .string xa] 29)
        have hbk := Blk.new w 29 [.int .i64 xm, .int .i64 xd, .string xh, .string xa]
        generalize w.alloc (Obj.cells #[.int .i64 xm, .int .i64 xd, .string xh, .string xa] 29) = wn at hbx hbk ⊢
        rw [← hg] at hbk ⊢
        have hgl := hbk.lt
        have HB := Lib.hid (cur_step1 HB0.out hbx)
        have HK := Lib.hid (show Keep w wn [(g, 0, .int .i64 xm), (g, 1, .int .i64 xd), (g, 2, .string xh), (g, 3, .string xa)] from ⟨HB.out, fun c hc => by simp at hc; rcases hc with rfl | rfl | rfl | rfl <;> exact ⟨hgl, hbk.cell _⟩⟩)
        have d0 : wn.cell? ⟨g, 0, none⟩ = some (.int .i64 xm) := HK.out.get (by simp)
        have d1 : wn.cell? ⟨g, 1, none⟩ = some (.int .i64 xd) := HK.out.get (by simp)
        have d2 : wn.cell? ⟨g, 2, none⟩ = some (.string xh) := HK.out.get (by simp)
        have d3 : wn.cell? ⟨g, 3, none⟩ = some (.string xa) := HK.out.get (by simp)
        have hgl := HK.out.lt (b := g) (o := 0) (v := .int .i64 xm) (by simp)
        have hgb : b < g := by rw [hg]; exact hbl
        clear hbx hbk hg c0 c1 c2 c3
        go_wp2_with (first
          | (go_at_call 54; refine (name_r xh _ _ HS.out.1 HN1.out).mono ?_; rintro e wn ⟨rfl, hbn⟩; replace HB := Lib.hid (cur_step1 HB.out hbn); replace HK := Lib.hid (HK.out.to hbn); have d0 : wn.cell? ⟨g, 0, none⟩ = some (.int .i64 xm) := HK.out.get (by simp); have d1 : wn.cell? ⟨g, 1, none⟩ = some (.int .i64 xd) := HK.out.get (by simp); have d2 : wn.cell? ⟨g, 2, none⟩ = some (.string xh) := HK.out.get (by simp); have d3 : wn.cell? ⟨g, 3, none⟩ = some (.string xa) := HK.out.get (by simp); have hgl := HK.out.lt (b := g) (o := 0) (v := .int .i64 xm) (by simp); clear hbn; clear HN1)
          | (go_at_call 54; refine (name_r xa _ _ HS.out.2 HN2.out).mono ?_; rintro e wn ⟨rfl, hbn⟩; replace HB := Lib.hid (cur_step1 HB.out hbn); replace HK := Lib.hid (HK.out.to hbn); have d0 : wn.cell? ⟨g, 0, none⟩ = some (.int .i64 xm) := HK.out.get (by simp); have d1 : wn.cell? ⟨g, 1, none⟩ = some (.int .i64 xd) := HK.out.get (by simp); have d2 : wn.cell? ⟨g, 2, none⟩ = some (.string xh) := HK.out.get (by simp); have d3 : wn.cell? ⟨g, 3, none⟩ = some (.string xa) := HK.out.get (by simp); have hgl := HK.out.lt (b := g) (o := 0) (v := .int .i64 xm) (by simp); clear hbn; clear HN2)
          | (go_at_call 53; refine (day_r _ _ _ HD.out).mono ?_; rintro e wn ⟨rfl, rfl⟩))
        go_ret
        exact ⟨ret_int HE.out, HB.out⟩
      · cases hn1 : nameB xh
        · have HE := Lib.hid (FIN.out 5 (by rw [HT.out]; simp only [errD, h1, h2, hd, hn1]; rfl))
          have HD := Lib.hid hd
          have HN1 := Lib.hid hn1
          clear hd hn1
          go_wp2_with fail
          obtain ⟨g, hg⟩ : ∃ g, g = w.heap.size := ⟨_, rfl⟩
          have hbx := cur_new w (.cells #[.int .i64 xm, .int .i64 xd, .string xh, .string xa] 29)
          have hbk := Blk.new w 29 [.int .i64 xm, .int .i64 xd, .string xh, .string xa]
          generalize w.alloc (Obj.cells #[.int .i64 xm, .int .i64 xd, .string xh, .string xa] 29) = wn at hbx hbk ⊢
          rw [← hg] at hbk ⊢
          have hgl := hbk.lt
          have HB := Lib.hid (cur_step1 HB0.out hbx)
          have HK := Lib.hid (show Keep w wn [(g, 0, .int .i64 xm), (g, 1, .int .i64 xd), (g, 2, .string xh), (g, 3, .string xa)] from ⟨HB.out, fun c hc => by simp at hc; rcases hc with rfl | rfl | rfl | rfl <;> exact ⟨hgl, hbk.cell _⟩⟩)
          have d0 : wn.cell? ⟨g, 0, none⟩ = some (.int .i64 xm) := HK.out.get (by simp)
          have d1 : wn.cell? ⟨g, 1, none⟩ = some (.int .i64 xd) := HK.out.get (by simp)
          have d2 : wn.cell? ⟨g, 2, none⟩ = some (.string xh) := HK.out.get (by simp)
          have d3 : wn.cell? ⟨g, 3, none⟩ = some (.string xa) := HK.out.get (by simp)
          have hgl := HK.out.lt (b := g) (o := 0) (v := .int .i64 xm) (by simp)
          have hgb : b < g := by rw [hg]; exact hbl
          clear hbx hbk hg c0 c1 c2 c3
          go_wp2_with (first
            | (go_at_call 54; refine (name_r xh _ _ HS.out.1 HN1.out).mono ?_; rintro e wn ⟨rfl, hbn⟩; replace HB := Lib.hid (cur_step1 HB.out hbn); replace HK := Lib.hid (HK.out.to hbn); have d0 : wn.cell? ⟨g, 0, none⟩ = some (.int .i64 xm) := HK.out.get (by simp); have d1 : wn.cell? ⟨g, 1, none⟩ = some (.int .i64 xd) := HK.out.get (by simp); have d2 : wn.cell? ⟨g, 2, none⟩ = some (.string xh) := HK.out.get (by simp); have d3 : wn.cell? ⟨g, 3, none⟩ = some (.string xa) := HK.out.get (by simp); have hgl := HK.out.lt (b := g) (o := 0) (v := .int .i64 xm) (by simp); clear hbn; clear HN1)
            | (go_at_call 54; refine (name_r xa _ _ HS.out.2 HN2.out).mono ?_; rintro e wn ⟨rfl, hbn⟩; replace HB := Lib.hid (cur_step1 HB.out hbn); replace HK := Lib.hid (HK.out.to hbn); have d0 : wn.cell? ⟨g, 0, none⟩ = some (.int .i64 xm) := HK.out.get (by simp); have d1 : wn.cell? ⟨g, 1, none⟩ = some (.int .i64 xd) := HK.out.get (by simp); have d2 : wn.cell? ⟨g, 2, none⟩ = some (.string xh) := HK.out.get (by simp); have d3 : wn.cell? ⟨g, 3, none⟩ = some (.string xa) := HK.out.get (by simp); have hgl := HK.out.lt (b := g) (o := 0) (v := .int .i64 xm) (by simp); clear hbn; clear HN2)
            | (go_at_call 53; refine (day_r _ _ _ HD.out).mono ?_; rintro e wn ⟨rfl, rfl⟩))
          go_ret
          exact ⟨ret_int HE.out, HB.out⟩
        · cases hn2 : nameB xa
          · have HE := Lib.hid (FIN.out 5 (by rw [HT.out]; simp only [errD, h1, h2, hd, hn1, hn2]; rfl))
            have HD := Lib.hid hd
            have HN1 := Lib.hid hn1
            have HN2 := Lib.hid hn2
            clear hd hn1 hn2
            go_wp2_with fail
            obtain ⟨g, hg⟩ : ∃ g, g = w.heap.size := ⟨_, rfl⟩
            have hbx := cur_new w (.cells #[.int .i64 xm, .int .i64 xd, .string xh, .string xa] 29)
            have hbk := Blk.new w 29 [.int .i64 xm, .int .i64 xd, .string xh, .string xa]
            generalize w.alloc (Obj.cells #[.int .i64 xm, .int .i64 xd, .string xh, .string xa] 29) = wn at hbx hbk ⊢
            rw [← hg] at hbk ⊢
            have hgl := hbk.lt
            have HB := Lib.hid (cur_step1 HB0.out hbx)
            have HK := Lib.hid (show Keep w wn [(g, 0, .int .i64 xm), (g, 1, .int .i64 xd), (g, 2, .string xh), (g, 3, .string xa)] from ⟨HB.out, fun c hc => by simp at hc; rcases hc with rfl | rfl | rfl | rfl <;> exact ⟨hgl, hbk.cell _⟩⟩)
            have d0 : wn.cell? ⟨g, 0, none⟩ = some (.int .i64 xm) := HK.out.get (by simp)
            have d1 : wn.cell? ⟨g, 1, none⟩ = some (.int .i64 xd) := HK.out.get (by simp)
            have d2 : wn.cell? ⟨g, 2, none⟩ = some (.string xh) := HK.out.get (by simp)
            have d3 : wn.cell? ⟨g, 3, none⟩ = some (.string xa) := HK.out.get (by simp)
            have hgl := HK.out.lt (b := g) (o := 0) (v := .int .i64 xm) (by simp)
            have hgb : b < g := by rw [hg]; exact hbl
            clear hbx hbk hg c0 c1 c2 c3
            go_wp2_with (first
              | (go_at_call 54; refine (name_r xh _ _ HS.out.1 HN1.out).mono ?_; rintro e wn ⟨rfl, hbn⟩; replace HB := Lib.hid (cur_step1 HB.out hbn); replace HK := Lib.hid (HK.out.to hbn); have d0 : wn.cell? ⟨g, 0, none⟩ = some (.int .i64 xm) := HK.out.get (by simp); have d1 : wn.cell? ⟨g, 1, none⟩ = some (.int .i64 xd) := HK.out.get (by simp); have d2 : wn.cell? ⟨g, 2, none⟩ = some (.string xh) := HK.out.get (by simp); have d3 : wn.cell? ⟨g, 3, none⟩ = some (.string xa) := HK.out.get (by simp); have hgl := HK.out.lt (b := g) (o := 0) (v := .int .i64 xm) (by simp); clear hbn; clear HN1)
              | (go_at_call 54; refine (name_r xa _ _ HS.out.2 HN2.out).mono ?_; rintro e wn ⟨rfl, hbn⟩; replace HB := Lib.hid (cur_step1 HB.out hbn); replace HK := Lib.hid (HK.out.to hbn); have d0 : wn.cell? ⟨g, 0, none⟩ = some (.int .i64 xm) := HK.out.get (by simp); have d1 : wn.cell? ⟨g, 1, none⟩ = some (.int .i64 xd) := HK.out.get (by simp); have d2 : wn.cell? ⟨g, 2, none⟩ = some (.string xh) := HK.out.get (by simp); have d3 : wn.cell? ⟨g, 3, none⟩ = some (.string xa) := HK.out.get (by simp); have hgl := HK.out.lt (b := g) (o := 0) (v := .int .i64 xm) (by simp); clear hbn; clear HN2)
              | (go_at_call 53; refine (day_r _ _ _ HD.out).mono ?_; rintro e wn ⟨rfl, rfl⟩))
            go_ret
            exact ⟨ret_int HE.out, HB.out⟩
          · cases hs : seq xh xa
            · rcases Nat.eq_zero_or_pos k with hk0 | hk0
              · subst hk0
                have HE := Lib.hid (FIN.out 0 (by rw [HT.out]; simp only [errD, befD, h1, h2, hd, hn1, hn2, hs]; rfl))
                simp only [Nat.zero_mul, Nat.add_zero] at c0 c1 c2 c3
                have HD := Lib.hid hd
                have HN1 := Lib.hid hn1
                have HN2 := Lib.hid hn2
                have es := seq_to xh xa
                rw [hs] at es
                clear hd hn1 hn2 hs
                go_wp2_with fail
                obtain ⟨g, hg⟩ : ∃ g, g = w.heap.size := ⟨_, rfl⟩
                have hbx := cur_new w (.cells #[.int .i64 xm, .int .i64 xd, .string xh, .string xa] 29)
                have hbk := Blk.new w 29 [.int .i64 xm, .int .i64 xd, .string xh, .string xa]
                generalize w.alloc (Obj.cells #[.int .i64 xm, .int .i64 xd, .string xh, .string xa] 29) = wn at hbx hbk ⊢
                rw [← hg] at hbk ⊢
                have hgl := hbk.lt
                have HB := Lib.hid (cur_step1 HB0.out hbx)
                have HK := Lib.hid (show Keep w wn [(g, 0, .int .i64 xm), (g, 1, .int .i64 xd), (g, 2, .string xh), (g, 3, .string xa)] from ⟨HB.out, fun c hc => by simp at hc; rcases hc with rfl | rfl | rfl | rfl <;> exact ⟨hgl, hbk.cell _⟩⟩)
                have d0 : wn.cell? ⟨g, 0, none⟩ = some (.int .i64 xm) := HK.out.get (by simp)
                have d1 : wn.cell? ⟨g, 1, none⟩ = some (.int .i64 xd) := HK.out.get (by simp)
                have d2 : wn.cell? ⟨g, 2, none⟩ = some (.string xh) := HK.out.get (by simp)
                have d3 : wn.cell? ⟨g, 3, none⟩ = some (.string xa) := HK.out.get (by simp)
                have hgl := HK.out.lt (b := g) (o := 0) (v := .int .i64 xm) (by simp)
                have hgb : b < g := by rw [hg]; exact hbl
                clear hbx hbk hg c0 c1 c2 c3
                go_wp2_with (first
                  | (go_at_call 54; refine (name_r xh _ _ HS.out.1 HN1.out).mono ?_; rintro e wn ⟨rfl, hbn⟩; replace HB := Lib.hid (cur_step1 HB.out hbn); replace HK := Lib.hid (HK.out.to hbn); have d0 : wn.cell? ⟨g, 0, none⟩ = some (.int .i64 xm) := HK.out.get (by simp); have d1 : wn.cell? ⟨g, 1, none⟩ = some (.int .i64 xd) := HK.out.get (by simp); have d2 : wn.cell? ⟨g, 2, none⟩ = some (.string xh) := HK.out.get (by simp); have d3 : wn.cell? ⟨g, 3, none⟩ = some (.string xa) := HK.out.get (by simp); have hgl := HK.out.lt (b := g) (o := 0) (v := .int .i64 xm) (by simp); clear hbn; clear HN1)
                  | (go_at_call 54; refine (name_r xa _ _ HS.out.2 HN2.out).mono ?_; rintro e wn ⟨rfl, hbn⟩; replace HB := Lib.hid (cur_step1 HB.out hbn); replace HK := Lib.hid (HK.out.to hbn); have d0 : wn.cell? ⟨g, 0, none⟩ = some (.int .i64 xm) := HK.out.get (by simp); have d1 : wn.cell? ⟨g, 1, none⟩ = some (.int .i64 xd) := HK.out.get (by simp); have d2 : wn.cell? ⟨g, 2, none⟩ = some (.string xh) := HK.out.get (by simp); have d3 : wn.cell? ⟨g, 3, none⟩ = some (.string xa) := HK.out.get (by simp); have hgl := HK.out.lt (b := g) (o := 0) (v := .int .i64 xm) (by simp); clear hbn; clear HN2)
                  | (go_at_call 53; refine (day_r _ _ _ HD.out).mono ?_; rintro e wn ⟨rfl, rfl⟩))
                go_quiet (fail)
                go_wp2_with fail
                go_ret
                exact ⟨ret_int HE.out, below_drewN HB.out _⟩
              · obtain ⟨q, hq⟩ : ∃ q, k = q + 1 := ⟨k - 1, by omega⟩
                have hi : (k : Int) - 1 = (q : Int) := by omega
                have hql : q < M.length := by omega
                obtain ⟨y, hy⟩ : ∃ y, M[q]? = some y := ⟨_, List.getElem?_eq_getElem hql⟩
                have hkd : decide ((0 : Int) < (k : Int)) = true := decide_eq_true (by omega)
                have hqd : decide ((q : Int) < (M.length : Int)) = true := decide_eq_true (by omega)
                have HBW := Lib.hid (show befD M k ⟨xm, xd, xh, xa⟩ = decide (xm ≤ y.m) by rw [hq]; simp [befD, hy])
                obtain ⟨b5, off5, h5, _, hcl5⟩ := HR.out.at_ HB0.out hy
                injection h5 with h5
                injection h5 with h6 h7 _
                subst h6 h7
                obtain ⟨cy, _, _, _⟩ := dt_cells hcl5
                have HCY := Lib.hid cy
                have HQ := Lib.hid hq
                clear hq hcl5 hy cy
                cases h4 : decide (xm ≤ y.m)
                · have HE := Lib.hid (FIN.out 0 (by rw [HT.out]; simp only [errD, HBW.out, h4, h1, h2, hd, hn1, hn2, hs]; rfl))
                  have HD := Lib.hid hd
                  have HN1 := Lib.hid hn1
                  have HN2 := Lib.hid hn2
                  have es := seq_to xh xa
                  rw [hs] at es
                  clear hd hn1 hn2 hs
                  go_wp2_with fail
                  obtain ⟨g, hg⟩ : ∃ g, g = w.heap.size := ⟨_, rfl⟩
                  have hbx := cur_new w (.cells #[.int .i64 xm, .int .i64 xd, .string xh, .string xa] 29)
                  have hbk := Blk.new w 29 [.int .i64 xm, .int .i64 xd, .string xh, .string xa]
                  generalize w.alloc (Obj.cells #[.int .i64 xm, .int .i64 xd, .string xh, .string xa] 29) = wn at hbx hbk ⊢
                  rw [← hg] at hbk ⊢
                  have hgl := hbk.lt
                  have HB := Lib.hid (cur_step1 HB0.out hbx)
                  have HK := Lib.hid (show Keep w wn [(g, 0, .int .i64 xm), (g, 1, .int .i64 xd), (g, 2, .string xh), (g, 3, .string xa)] from ⟨HB.out, fun c hc => by simp at hc; rcases hc with rfl | rfl | rfl | rfl <;> exact ⟨hgl, hbk.cell _⟩⟩)
                  have d0 : wn.cell? ⟨g, 0, none⟩ = some (.int .i64 xm) := HK.out.get (by simp)
                  have d1 : wn.cell? ⟨g, 1, none⟩ = some (.int .i64 xd) := HK.out.get (by simp)
                  have d2 : wn.cell? ⟨g, 2, none⟩ = some (.string xh) := HK.out.get (by simp)
                  have d3 : wn.cell? ⟨g, 3, none⟩ = some (.string xa) := HK.out.get (by simp)
                  have hgl := HK.out.lt (b := g) (o := 0) (v := .int .i64 xm) (by simp)
                  have hgb : b < g := by rw [hg]; exact hbl
                  have HK2 := Lib.hid (show Keep w wn [(b, off + q * 4, .int .i64 y.m)] from ⟨HB.out, fun c hc => by simp at hc; rcases hc with rfl; exact ⟨Nat.lt_of_lt_of_le hbl hbx.size, (hbx.cell (p := ⟨b, off + q * 4, none⟩) hbl).trans HCY.out⟩⟩)
                  have cy : wn.cell? ⟨b, off + q * 4, none⟩ = some (.int .i64 y.m) := HK2.out.get (by simp)
                  clear hbx hbk hg c0 c1 c2 c3
                  go_wp2_with (first
                    | (go_at_call 54; refine (name_r xh _ _ HS.out.1 HN1.out).mono ?_; rintro e wn ⟨rfl, hbn⟩; replace HB := Lib.hid (cur_step1 HB.out hbn); replace HK := Lib.hid (HK.out.to hbn); have d0 : wn.cell? ⟨g, 0, none⟩ = some (.int .i64 xm) := HK.out.get (by simp); have d1 : wn.cell? ⟨g, 1, none⟩ = some (.int .i64 xd) := HK.out.get (by simp); have d2 : wn.cell? ⟨g, 2, none⟩ = some (.string xh) := HK.out.get (by simp); have d3 : wn.cell? ⟨g, 3, none⟩ = some (.string xa) := HK.out.get (by simp); have hgl := HK.out.lt (b := g) (o := 0) (v := .int .i64 xm) (by simp); replace HK2 := Lib.hid (HK2.out.to hbn); have cy : wn.cell? ⟨b, off + q * 4, none⟩ = some (.int .i64 y.m) := HK2.out.get (by simp); have hbl2 := HK2.out.lt (b := b) (o := off + q * 4) (v := .int .i64 y.m) (by simp); clear hbn; clear HN1)
                    | (go_at_call 54; refine (name_r xa _ _ HS.out.2 HN2.out).mono ?_; rintro e wn ⟨rfl, hbn⟩; replace HB := Lib.hid (cur_step1 HB.out hbn); replace HK := Lib.hid (HK.out.to hbn); have d0 : wn.cell? ⟨g, 0, none⟩ = some (.int .i64 xm) := HK.out.get (by simp); have d1 : wn.cell? ⟨g, 1, none⟩ = some (.int .i64 xd) := HK.out.get (by simp); have d2 : wn.cell? ⟨g, 2, none⟩ = some (.string xh) := HK.out.get (by simp); have d3 : wn.cell? ⟨g, 3, none⟩ = some (.string xa) := HK.out.get (by simp); have hgl := HK.out.lt (b := g) (o := 0) (v := .int .i64 xm) (by simp); replace HK2 := Lib.hid (HK2.out.to hbn); have cy : wn.cell? ⟨b, off + q * 4, none⟩ = some (.int .i64 y.m) := HK2.out.get (by simp); have hbl2 := HK2.out.lt (b := b) (o := off + q * 4) (v := .int .i64 y.m) (by simp); clear hbn; clear HN2)
                    | (go_at_call 53; refine (day_r _ _ _ HD.out).mono ?_; rintro e wn ⟨rfl, rfl⟩))
                  go_quiet (fail)
                  go_wp2_with fail
                  go_ret
                  exact ⟨ret_int HE.out, below_drewN HB.out _⟩
                · have HE := Lib.hid (FIN.out 8 (by rw [HT.out]; simp only [errD, HBW.out, h4, h1, h2, hd, hn1, hn2, hs]; rfl))
                  have HD := Lib.hid hd
                  have HN1 := Lib.hid hn1
                  have HN2 := Lib.hid hn2
                  have es := seq_to xh xa
                  rw [hs] at es
                  clear hd hn1 hn2 hs
                  go_wp2_with fail
                  obtain ⟨g, hg⟩ : ∃ g, g = w.heap.size := ⟨_, rfl⟩
                  have hbx := cur_new w (.cells #[.int .i64 xm, .int .i64 xd, .string xh, .string xa] 29)
                  have hbk := Blk.new w 29 [.int .i64 xm, .int .i64 xd, .string xh, .string xa]
                  generalize w.alloc (Obj.cells #[.int .i64 xm, .int .i64 xd, .string xh, .string xa] 29) = wn at hbx hbk ⊢
                  rw [← hg] at hbk ⊢
                  have hgl := hbk.lt
                  have HB := Lib.hid (cur_step1 HB0.out hbx)
                  have HK := Lib.hid (show Keep w wn [(g, 0, .int .i64 xm), (g, 1, .int .i64 xd), (g, 2, .string xh), (g, 3, .string xa)] from ⟨HB.out, fun c hc => by simp at hc; rcases hc with rfl | rfl | rfl | rfl <;> exact ⟨hgl, hbk.cell _⟩⟩)
                  have d0 : wn.cell? ⟨g, 0, none⟩ = some (.int .i64 xm) := HK.out.get (by simp)
                  have d1 : wn.cell? ⟨g, 1, none⟩ = some (.int .i64 xd) := HK.out.get (by simp)
                  have d2 : wn.cell? ⟨g, 2, none⟩ = some (.string xh) := HK.out.get (by simp)
                  have d3 : wn.cell? ⟨g, 3, none⟩ = some (.string xa) := HK.out.get (by simp)
                  have hgl := HK.out.lt (b := g) (o := 0) (v := .int .i64 xm) (by simp)
                  have hgb : b < g := by rw [hg]; exact hbl
                  have HK2 := Lib.hid (show Keep w wn [(b, off + q * 4, .int .i64 y.m)] from ⟨HB.out, fun c hc => by simp at hc; rcases hc with rfl; exact ⟨Nat.lt_of_lt_of_le hbl hbx.size, (hbx.cell (p := ⟨b, off + q * 4, none⟩) hbl).trans HCY.out⟩⟩)
                  have cy : wn.cell? ⟨b, off + q * 4, none⟩ = some (.int .i64 y.m) := HK2.out.get (by simp)
                  clear hbx hbk hg c0 c1 c2 c3
                  go_wp2_with (first
                    | (go_at_call 54; refine (name_r xh _ _ HS.out.1 HN1.out).mono ?_; rintro e wn ⟨rfl, hbn⟩; replace HB := Lib.hid (cur_step1 HB.out hbn); replace HK := Lib.hid (HK.out.to hbn); have d0 : wn.cell? ⟨g, 0, none⟩ = some (.int .i64 xm) := HK.out.get (by simp); have d1 : wn.cell? ⟨g, 1, none⟩ = some (.int .i64 xd) := HK.out.get (by simp); have d2 : wn.cell? ⟨g, 2, none⟩ = some (.string xh) := HK.out.get (by simp); have d3 : wn.cell? ⟨g, 3, none⟩ = some (.string xa) := HK.out.get (by simp); have hgl := HK.out.lt (b := g) (o := 0) (v := .int .i64 xm) (by simp); replace HK2 := Lib.hid (HK2.out.to hbn); have cy : wn.cell? ⟨b, off + q * 4, none⟩ = some (.int .i64 y.m) := HK2.out.get (by simp); have hbl2 := HK2.out.lt (b := b) (o := off + q * 4) (v := .int .i64 y.m) (by simp); clear hbn; clear HN1)
                    | (go_at_call 54; refine (name_r xa _ _ HS.out.2 HN2.out).mono ?_; rintro e wn ⟨rfl, hbn⟩; replace HB := Lib.hid (cur_step1 HB.out hbn); replace HK := Lib.hid (HK.out.to hbn); have d0 : wn.cell? ⟨g, 0, none⟩ = some (.int .i64 xm) := HK.out.get (by simp); have d1 : wn.cell? ⟨g, 1, none⟩ = some (.int .i64 xd) := HK.out.get (by simp); have d2 : wn.cell? ⟨g, 2, none⟩ = some (.string xh) := HK.out.get (by simp); have d3 : wn.cell? ⟨g, 3, none⟩ = some (.string xa) := HK.out.get (by simp); have hgl := HK.out.lt (b := g) (o := 0) (v := .int .i64 xm) (by simp); replace HK2 := Lib.hid (HK2.out.to hbn); have cy : wn.cell? ⟨b, off + q * 4, none⟩ = some (.int .i64 y.m) := HK2.out.get (by simp); have hbl2 := HK2.out.lt (b := b) (o := off + q * 4) (v := .int .i64 y.m) (by simp); clear hbn; clear HN2)
                    | (go_at_call 53; refine (day_r _ _ _ HD.out).mono ?_; rintro e wn ⟨rfl, rfl⟩))
                  go_quiet (fail)
                  go_wp2_with fail
                  go_ret
                  exact ⟨ret_int HE.out, below_drewN HB.out _⟩
            · have HE := Lib.hid (FIN.out 1 (by rw [HT.out]; simp only [errD, h1, h2, hd, hn1, hn2, hs]; rfl))
              have HD := Lib.hid hd
              have HN1 := Lib.hid hn1
              have HN2 := Lib.hid hn2
              have es := seq_to xh xa
              rw [hs] at es
              clear hd hn1 hn2 hs
              go_wp2_with fail
              obtain ⟨g, hg⟩ : ∃ g, g = w.heap.size := ⟨_, rfl⟩
              have hbx := cur_new w (.cells #[.int .i64 xm, .int .i64 xd, .string xh, .string xa] 29)
              have hbk := Blk.new w 29 [.int .i64 xm, .int .i64 xd, .string xh, .string xa]
              generalize w.alloc (Obj.cells #[.int .i64 xm, .int .i64 xd, .string xh, .string xa] 29) = wn at hbx hbk ⊢
              rw [← hg] at hbk ⊢
              have hgl := hbk.lt
              have HB := Lib.hid (cur_step1 HB0.out hbx)
              have HK := Lib.hid (show Keep w wn [(g, 0, .int .i64 xm), (g, 1, .int .i64 xd), (g, 2, .string xh), (g, 3, .string xa)] from ⟨HB.out, fun c hc => by simp at hc; rcases hc with rfl | rfl | rfl | rfl <;> exact ⟨hgl, hbk.cell _⟩⟩)
              have d0 : wn.cell? ⟨g, 0, none⟩ = some (.int .i64 xm) := HK.out.get (by simp)
              have d1 : wn.cell? ⟨g, 1, none⟩ = some (.int .i64 xd) := HK.out.get (by simp)
              have d2 : wn.cell? ⟨g, 2, none⟩ = some (.string xh) := HK.out.get (by simp)
              have d3 : wn.cell? ⟨g, 3, none⟩ = some (.string xa) := HK.out.get (by simp)
              have hgl := HK.out.lt (b := g) (o := 0) (v := .int .i64 xm) (by simp)
              have hgb : b < g := by rw [hg]; exact hbl
              clear hbx hbk hg c0 c1 c2 c3
              go_wp2_with (first
                | (go_at_call 54; refine (name_r xh _ _ HS.out.1 HN1.out).mono ?_; rintro e wn ⟨rfl, hbn⟩; replace HB := Lib.hid (cur_step1 HB.out hbn); replace HK := Lib.hid (HK.out.to hbn); have d0 : wn.cell? ⟨g, 0, none⟩ = some (.int .i64 xm) := HK.out.get (by simp); have d1 : wn.cell? ⟨g, 1, none⟩ = some (.int .i64 xd) := HK.out.get (by simp); have d2 : wn.cell? ⟨g, 2, none⟩ = some (.string xh) := HK.out.get (by simp); have d3 : wn.cell? ⟨g, 3, none⟩ = some (.string xa) := HK.out.get (by simp); have hgl := HK.out.lt (b := g) (o := 0) (v := .int .i64 xm) (by simp); clear hbn; clear HN1)
                | (go_at_call 54; refine (name_r xa _ _ HS.out.2 HN2.out).mono ?_; rintro e wn ⟨rfl, hbn⟩; replace HB := Lib.hid (cur_step1 HB.out hbn); replace HK := Lib.hid (HK.out.to hbn); have d0 : wn.cell? ⟨g, 0, none⟩ = some (.int .i64 xm) := HK.out.get (by simp); have d1 : wn.cell? ⟨g, 1, none⟩ = some (.int .i64 xd) := HK.out.get (by simp); have d2 : wn.cell? ⟨g, 2, none⟩ = some (.string xh) := HK.out.get (by simp); have d3 : wn.cell? ⟨g, 3, none⟩ = some (.string xa) := HK.out.get (by simp); have hgl := HK.out.lt (b := g) (o := 0) (v := .int .i64 xm) (by simp); clear hbn; clear HN2)
                | (go_at_call 53; refine (day_r _ _ _ HD.out).mono ?_; rintro e wn ⟨rfl, rfl⟩))
              go_ret
              exact ⟨ret_int HE.out, HB.out⟩
    · have HE := Lib.hid (FIN.out 2 (by rw [HT.out]; simp only [errD, h1, h2]; rfl))
      go_wp2_with fail
      go_ret
      exact ⟨ret_int HE.out, cur_step1 HB0.out (cur_new _ _)⟩
  · have HE := Lib.hid (FIN.out 2 (by rw [HT.out]; simp only [errD, h1]; rfl))
    go_wp2_with fail
    go_ret
    exact ⟨ret_int HE.out, cur_step1 HB0.out (cur_new _ _)⟩
end Go.Proofs.Ytckbhdokfkabfaa
