/-
  Chapter 54: Check of the reference.
-/
import Derived.Test.YtpninpohligomaaGreatDoorCk54
set_option linter.unusedSimpArgs false
set_option linter.unusedVariables false
namespace Go.Proofs.YtpninpohligomaaGreatDoor
open Go.RowKit
set_option maxRecDepth 100000
set_option maxHeartbeats 1000000
theorem ck_r (WA : Option Addr) (wc : Nat) (ws : List Wn) (A : Option Addr) (c : Nat) (l : List Tr) (r1 r2 : Int) (w : World) (hwl : ws.length ≤ 32) (hl : l.length ≤ 2000) (hwr : Rd wnE 2 w w.heap.size WA ws) (hr : Rd trE 3 w w.heap.size A l)
    (hsz : ∀ (k : Nat) z, l[k]? = some z → z.p.size ≤ 9223372036854775807 ∧ z.t.size ≤ 9223372036854775807) (hv : ckT ws l = (r1, r2)) :
    Calls Tryz.prog 43 #[.slice WA ws.length wc, .slice A l.length c] w fun e w' => e = .returned (.tuple #[.int .i64 r1, .int .i64 r2]) ∧ Below w.heap.size w w' := by
  have HV := Lib.hid hv
  have HWR := Lib.hid hwr
  have HR := Lib.hid hr
  have HSZ := Lib.hid hsz
  clear hr hv hwr hsz
  go_enter Tryz.func43, Tryz.ntmps43
  go_wp2_with fail
  go_loopw [16] (CkWR w ws) (fun i _ => ws.length - (intOf i).toNat)
  case atStart => exact ⟨0, by simp, rfl, by intro j h; omega, Below.refl _ _⟩
  case round =>
    obtain ⟨k, hk, rfl, hno, hB⟩ := hrel
    have HNO := Lib.hid hno
    have HB := Lib.hid hB
    clear hno hB
    by_cases hlt2 : k < ws.length
    · obtain ⟨x, hx⟩ : ∃ x, ws[k]? = some x := ⟨_, List.getElem?_eq_getElem hlt2⟩
      obtain ⟨b, off, rfl, hbb, hcl⟩ := HWR.out.at_ HB.out hx
      obtain ⟨c0, c1⟩ := wn_cells hcl
      have HX := Lib.hid hx
      have HW := Lib.hid (wErr_at hx)
      have hbl : b < wr.heap.size := by have := HB.out.size; omega
      clear hcl hx
      have fin : ∀ r : Int, wErr ws k = r → r ≠ 0 → (-1 : Int) = r1 ∧ r = r2 := fun r h1 h2 => by
        have h := HV.out
        have hc := ckW_of hwl HNO.out hlt2 (by rw [h1]; exact h2)
        rw [ckT_win (by rw [hc, h1]; exact h2), hc, h1] at h
        injection h with h3 h4
        exact ⟨h3, h4⟩
      have nxt : wErr ws k = 0 → ∀ j, j < k + 1 → wErr ws j = 0 := fun h j hj => by
        by_cases e : j = k
        · rw [e]; exact h
        · exact HNO.out j (by omega)
      have FIN := Lib.hid fin
      have NXT := Lib.hid nxt
      clear fin nxt
      cases h1 : isDayB x.f
      · have H1 := Lib.hid h1
        have HE := Lib.hid (FIN.out 2 (by rw [HW.out, h1]; rfl) (by decide))
        clear h1
        go_wp2_with (go_at_call 69; refine (day_r _ _ _ H1.out).mono ?_; rintro e w1 ⟨rfl, rfl⟩)
        go_ret2
        exact ⟨ret_two HE.out.1 HE.out.2, cur_step1 HB.out (cur_new _ _)⟩
      · have H1 := Lib.hid h1
        cases h2 : isDayB x.t
        · have H2 := Lib.hid h2
          have HE := Lib.hid (FIN.out 2 (by rw [HW.out, h1, h2]; rfl) (by decide))
          clear h1 h2
          go_wp2_with (go_at_call 69; refine (day_r _ ?_ _ ?_).mono ?_; rotate_left 1; (first | exact H1.out | exact H2.out); rintro e w1 ⟨rfl, rfl⟩)
          go_ret2
          exact ⟨ret_two HE.out.1 HE.out.2, cur_step1 HB.out (cur_new _ _)⟩
        · have H2 := Lib.hid h2
          cases h3 : decide (x.t < x.f)
          · rcases Nat.eq_zero_or_pos k with hk0 | hk0
            · subst hk0
              have HE := Lib.hid (show wErr ws 0 = 0 by rw [HW.out, h1, h2, h3]; rfl)
              clear h1 h2
              simp only [Nat.zero_mul, Nat.add_zero] at c0 c1
              go_wp2_with (go_at_call 69; refine (day_r _ ?_ _ ?_).mono ?_; rotate_left 1; (first | exact H1.out | exact H2.out); rintro e w1 ⟨rfl, rfl⟩)
              have hbx := cur_new wr (.cells #[.int .i64 x.f, .int .i64 x.t] 56)
              have hbk := Blk.new wr 56 [.int .i64 x.f, .int .i64 x.t]
              generalize wr.alloc (Obj.cells #[.int .i64 x.f, .int .i64 x.t] 56) = w2 at hbx hbk ⊢
              have d0 : w2.cell? ⟨wr.heap.size, 0, none⟩ = some (.int .i64 x.f) := hbk.cell 0
              have d1 : w2.cell? ⟨wr.heap.size, 1, none⟩ = some (.int .i64 x.t) := hbk.cell 1
              have hlt3 := hbk.lt
              have hbl2 : b < w2.heap.size := by omega
              have HB2 := Lib.hid (cur_step1 HB.out hbx)
              clear hbx hbk
              go_quiet (fail)
              go_wp2_with fail
              go_roundw
              case rel => exact ⟨0 + 1, hlt2, by simp, NXT.out HE.out, below_drewN HB2.out _⟩
              case measure => simp [intOf] <;> omega
            · obtain ⟨q, hq⟩ : ∃ q, k = q + 1 := ⟨k - 1, by omega⟩
              have hi : (k : Int) - 1 = (q : Int) := by omega
              have hql : q < ws.length := by omega
              obtain ⟨y, hy⟩ : ∃ y, ws[q]? = some y := ⟨_, List.getElem?_eq_getElem hql⟩
              have hkd : decide ((0 : Int) < (k : Int)) = true := decide_eq_true (by omega)
              have hqd : decide ((q : Int) < (ws.length : Int)) = true := decide_eq_true (by omega)
              have HBW := Lib.hid (show befW ws k x = decide (x.f ≤ y.t) by rw [hq, befW_at hy])
              obtain ⟨b5, off5, h5, _, hcl5⟩ := HWR.out.at_ HB.out hy
              injection h5 with h5
              injection h5 with h6 h7 _
              subst h6 h7
              obtain ⟨_, cy⟩ := wn_cells hcl5
              have HQ := Lib.hid hq
              clear hq hcl5 hy
              cases h4 : decide (x.f ≤ y.t)
              · have HE := Lib.hid (show wErr ws k = 0 by rw [HW.out, h1, h2, h3, HBW.out, h4]; rfl)
                clear h1 h2
                go_wp2_with (go_at_call 69; refine (day_r _ ?_ _ ?_).mono ?_; rotate_left 1; (first | exact H1.out | exact H2.out); rintro e w1 ⟨rfl, rfl⟩)
                have hbx := cur_new wr (.cells #[.int .i64 x.f, .int .i64 x.t] 56)
                have hbk := Blk.new wr 56 [.int .i64 x.f, .int .i64 x.t]
                generalize wr.alloc (Obj.cells #[.int .i64 x.f, .int .i64 x.t] 56) = w2 at hbx hbk ⊢
                have d0 : w2.cell? ⟨wr.heap.size, 0, none⟩ = some (.int .i64 x.f) := hbk.cell 0
                have d1 : w2.cell? ⟨wr.heap.size, 1, none⟩ = some (.int .i64 x.t) := hbk.cell 1
                have hlt3 := hbk.lt
                have hbl2 : b < w2.heap.size := by omega
                have HB2 := Lib.hid (cur_step1 HB.out hbx)
                have cy2 := (hbx.cell (p := ⟨b, off + q * 2 + 1, none⟩) hbl).trans cy
                clear hbx hbk cy
                go_quiet (fail)
                go_wp2_with fail
                go_roundw
                case rel => exact ⟨k + 1, hlt2, by simp, NXT.out HE.out, below_drewN HB2.out _⟩
                case measure => simp [intOf] <;> omega
              · have HE := Lib.hid (FIN.out 8 (by rw [HW.out, h1, h2, h3, HBW.out, h4]; rfl) (by decide))
                clear h1 h2
                go_wp2_with (go_at_call 69; refine (day_r _ ?_ _ ?_).mono ?_; rotate_left 1; (first | exact H1.out | exact H2.out); rintro e w1 ⟨rfl, rfl⟩)
                have hbx := cur_new wr (.cells #[.int .i64 x.f, .int .i64 x.t] 56)
                have hbk := Blk.new wr 56 [.int .i64 x.f, .int .i64 x.t]
                generalize wr.alloc (Obj.cells #[.int .i64 x.f, .int .i64 x.t] 56) = w2 at hbx hbk ⊢
                have d0 : w2.cell? ⟨wr.heap.size, 0, none⟩ = some (.int .i64 x.f) := hbk.cell 0
                have d1 : w2.cell? ⟨wr.heap.size, 1, none⟩ = some (.int .i64 x.t) := hbk.cell 1
                have hlt3 := hbk.lt
                have hbl2 : b < w2.heap.size := by omega
                have HB2 := Lib.hid (cur_step1 HB.out hbx)
                have cy2 := (hbx.cell (p := ⟨b, off + q * 2 + 1, none⟩) hbl).trans cy
                clear hbx hbk cy
                go_quiet (fail)
                go_wp2_with fail
                go_ret2
                exact ⟨ret_two HE.out.1 HE.out.2, below_drewN HB2.out _⟩
          · have HE := Lib.hid (FIN.out 8 (by rw [HW.out, h1, h2, h3]; rfl) (by decide))
            clear h1 h2
            go_wp2_with (go_at_call 69; refine (day_r _ ?_ _ ?_).mono ?_; rotate_left 1; (first | exact H1.out | exact H2.out); rintro e w1 ⟨rfl, rfl⟩)
            have hbx := cur_new wr (.cells #[.int .i64 x.f, .int .i64 x.t] 56)
            have hbk := Blk.new wr 56 [.int .i64 x.f, .int .i64 x.t]
            generalize wr.alloc (Obj.cells #[.int .i64 x.f, .int .i64 x.t] 56) = w2 at hbx hbk ⊢
            have d0 : w2.cell? ⟨wr.heap.size, 0, none⟩ = some (.int .i64 x.f) := hbk.cell 0
            have d1 : w2.cell? ⟨wr.heap.size, 1, none⟩ = some (.int .i64 x.t) := hbk.cell 1
            have hlt3 := hbk.lt
            have hbl2 : b < w2.heap.size := by omega
            have HB2 := Lib.hid (cur_step1 HB.out hbx)
            clear hbx hbk
            go_quiet (fail)
            go_wp2_with fail
            go_ret2
            exact ⟨ret_two HE.out.1 HE.out.2, below_drewN HB2.out _⟩
    · have hke : k = ws.length := by omega
      have HW0 := Lib.hid (show ckW ws = 0 from ckW_end hwl (by rw [← hke]; exact HNO.out))
      have HB1 := Lib.hid HB.out
      clear HB HNO
      subst hke
      clear hlt2 hk
      go_wp2_with fail
      go_loopw [57] (CkR w ws l) (fun i _ => l.length - (intOf i).toNat)
      case atStart => exact ⟨0, by simp, rfl, by intro j h; omega, HB1.out⟩
      case round =>
        obtain ⟨k, hk, rfl, hno, hB⟩ := hrel
        have HNO := Lib.hid hno
        have HB0 := Lib.hid hB
        have hl6 : l.length ≤ 1000000 := by omega
        have hwl6 : ws.length ≤ 1000000 := by omega
        clear hno hB
        by_cases hlt : k < l.length
        · obtain ⟨z, hz⟩ : ∃ z, l[k]? = some z := ⟨_, List.getElem?_eq_getElem hlt⟩
          obtain ⟨b, off, rfl, hbb, hcl⟩ := HR.out.at_ HB0.out hz
          obtain ⟨c0, c1, c2⟩ := tr_cells hcl
          have HZ := Lib.hid hz
          have HSP := Lib.hid (HSZ.out k z hz).1
          have HST := Lib.hid (HSZ.out k z hz).2
          have HT := Lib.hid (tErr_at (w := ws) hz)
          have hbl : b < wr.heap.size := by have := HB0.out.size; omega
          clear hcl hz
          have fin : ∀ r : Int, tErr ws l k = r → r ≠ 0 → (k : Int) = r1 ∧ r = r2 := fun r h1 h2 => by
            have h := HV.out
            rw [ckT_of HW0.out hl HNO.out hlt (by rw [h1]; exact h2), h1] at h
            injection h with h3 h4
            exact ⟨h3, h4⟩
          have nxt : tErr ws l k = 0 → ∀ j, j < k + 1 → tErr ws l j = 0 := fun h j hj => by
            by_cases e : j = k
            · rw [e]; exact h
            · exact HNO.out j (by omega)
          have FIN := Lib.hid fin
          have NXT := Lib.hid nxt
          clear fin nxt
          have et := isE_to z.t
          go_wp2_with fail
          obtain ⟨g, hg⟩ : ∃ g, g = wr.heap.size := ⟨_, rfl⟩
          have hbx := cur_new wr (.cells #[.string z.p, .string z.t, .int .i64 z.d] 51)
          have hbk := Blk.new wr 51 [.string z.p, .string z.t, .int .i64 z.d]
          generalize wr.alloc (Obj.cells #[.string z.p, .string z.t, .int .i64 z.d] 51) = w2 at hbx hbk ⊢
          rw [← hg] at hbk ⊢
          have d0 : w2.cell? ⟨g, 0, none⟩ = some (.string z.p) := hbk.cell 0
          have d1 : w2.cell? ⟨g, 1, none⟩ = some (.string z.t) := hbk.cell 1
          have d2 : w2.cell? ⟨g, 2, none⟩ = some (.int .i64 z.d) := hbk.cell 2
          have hgl := hbk.lt
          have HB := Lib.hid (cur_step1 HB0.out hbx)
          have HK := Lib.hid (show Keep w w2 [(g, 0, .string z.p), (g, 1, .string z.t), (g, 2, .int .i64 z.d)] from ⟨HB.out, fun c hc => by simp at hc; rcases hc with rfl | rfl | rfl <;> exact ⟨hgl, by assumption⟩⟩)
          have hgb : b < g := by rw [hg]; exact hbl
          clear hbx hbk hg c0 c1 c2
          obtain ⟨u, hu⟩ : ∃ u, bef l z.p k = u := ⟨_, rfl⟩
          obtain ⟨o, ho⟩ : ∃ o, openW ws z.d = o := ⟨_, rfl⟩
          have HU := Lib.hid hu
          have HO := Lib.hid ho
          clear hu ho
          have es := seq_to z.t u
          have eu := isE_to u
          cases hn1 : nameB z.p
          · have HE := Lib.hid (FIN.out 5 (by rw [HT.out]; simp [err1, hn1]) (by decide))
            have HN1 := Lib.hid hn1
            clear hn1
            go_wp2_with (first
              | (go_at_call 70; refine (before_r _ _ _ k z u _ hl6 (HR.out.to HB.out) HZ.out HU.out).mono ?_; rintro e wn ⟨rfl, hbn⟩; replace HB := Lib.hid (cur_step1 HB.out hbn); replace HK := Lib.hid (HK.out.to hbn); have d0 : wn.cell? ⟨g, 0, none⟩ = some (.string z.p) := HK.out.get (by simp); have d1 : wn.cell? ⟨g, 1, none⟩ = some (.string z.t) := HK.out.get (by simp); have d2 : wn.cell? ⟨g, 2, none⟩ = some (.int .i64 z.d) := HK.out.get (by simp); have hgl := HK.out.lt (b := g) (o := 2) (v := .int .i64 z.d) (by simp); clear hbn)
              | (go_at_call 53; refine (name_r _ ?_ _ ?_ ?_).mono ?_; rotate_left 1; (first | exact HSP.out | exact HST.out); (first | exact HN1.out); rintro e wn ⟨rfl, hbn⟩; replace HB := Lib.hid (cur_step1 HB.out hbn); replace HK := Lib.hid (HK.out.to hbn); have d0 : wn.cell? ⟨g, 0, none⟩ = some (.string z.p) := HK.out.get (by simp); have d1 : wn.cell? ⟨g, 1, none⟩ = some (.string z.t) := HK.out.get (by simp); have d2 : wn.cell? ⟨g, 2, none⟩ = some (.int .i64 z.d) := HK.out.get (by simp); have hgl := HK.out.lt (b := g) (o := 2) (v := .int .i64 z.d) (by simp); clear hbn))
            go_ret2
            exact ⟨ret_two HE.out.1 HE.out.2, HB.out⟩
          · cases hte : isE z.t
            · cases hn2 : nameB z.t
              · rw [hte] at et
                have HE := Lib.hid (FIN.out 5 (by rw [HT.out]; simp [err1, hn1, hte, hn2]) (by decide))
                have HN1 := Lib.hid hn1
                have HN2 := Lib.hid hn2
                clear hn1 hn2 hte
                go_wp2_with (first
                  | (go_at_call 70; refine (before_r _ _ _ k z u _ hl6 (HR.out.to HB.out) HZ.out HU.out).mono ?_; rintro e wn ⟨rfl, hbn⟩; replace HB := Lib.hid (cur_step1 HB.out hbn); replace HK := Lib.hid (HK.out.to hbn); have d0 : wn.cell? ⟨g, 0, none⟩ = some (.string z.p) := HK.out.get (by simp); have d1 : wn.cell? ⟨g, 1, none⟩ = some (.string z.t) := HK.out.get (by simp); have d2 : wn.cell? ⟨g, 2, none⟩ = some (.int .i64 z.d) := HK.out.get (by simp); have hgl := HK.out.lt (b := g) (o := 2) (v := .int .i64 z.d) (by simp); clear hbn)
                  | (go_at_call 53; refine (name_r _ ?_ _ ?_ ?_).mono ?_; rotate_left 1; (first | exact HSP.out | exact HST.out); (first | exact HN1.out | exact HN2.out); rintro e wn ⟨rfl, hbn⟩; replace HB := Lib.hid (cur_step1 HB.out hbn); replace HK := Lib.hid (HK.out.to hbn); have d0 : wn.cell? ⟨g, 0, none⟩ = some (.string z.p) := HK.out.get (by simp); have d1 : wn.cell? ⟨g, 1, none⟩ = some (.string z.t) := HK.out.get (by simp); have d2 : wn.cell? ⟨g, 2, none⟩ = some (.int .i64 z.d) := HK.out.get (by simp); have hgl := HK.out.lt (b := g) (o := 2) (v := .int .i64 z.d) (by simp); clear hbn))
                go_ret2
                exact ⟨ret_two HE.out.1 HE.out.2, HB.out⟩
              · rw [hte] at et
                have HC := Lib.hid (show err1 l k z = if !isDayB z.d then 2 else if befT l k z then 8 else 0 by simp [err1, hn1, hte, hn2])
                have HN1 := Lib.hid hn1
                have HN2 := Lib.hid hn2
                have HTE := Lib.hid hte
                clear hn1 hn2 hte
                cases hd : isDayB z.d
                · have HE := Lib.hid (FIN.out 2 (by rw [HT.out, HC.out, hd]; rfl) (by decide))
                  have HD := Lib.hid hd
                  clear hd
                  go_wp2_with (first
                    | (go_at_call 70; refine (before_r _ _ _ k z u _ hl6 (HR.out.to HB.out) HZ.out HU.out).mono ?_; rintro e wn ⟨rfl, hbn⟩; replace HB := Lib.hid (cur_step1 HB.out hbn); replace HK := Lib.hid (HK.out.to hbn); have d0 : wn.cell? ⟨g, 0, none⟩ = some (.string z.p) := HK.out.get (by simp); have d1 : wn.cell? ⟨g, 1, none⟩ = some (.string z.t) := HK.out.get (by simp); have d2 : wn.cell? ⟨g, 2, none⟩ = some (.int .i64 z.d) := HK.out.get (by simp); have hgl := HK.out.lt (b := g) (o := 2) (v := .int .i64 z.d) (by simp); clear hbn)
                    | (go_at_call 53; refine (name_r _ ?_ _ ?_ ?_).mono ?_; rotate_left 1; (first | exact HSP.out | exact HST.out); (first | exact HN1.out | exact HN2.out); rintro e wn ⟨rfl, hbn⟩; replace HB := Lib.hid (cur_step1 HB.out hbn); replace HK := Lib.hid (HK.out.to hbn); have d0 : wn.cell? ⟨g, 0, none⟩ = some (.string z.p) := HK.out.get (by simp); have d1 : wn.cell? ⟨g, 1, none⟩ = some (.string z.t) := HK.out.get (by simp); have d2 : wn.cell? ⟨g, 2, none⟩ = some (.int .i64 z.d) := HK.out.get (by simp); have hgl := HK.out.lt (b := g) (o := 2) (v := .int .i64 z.d) (by simp); clear hbn)
                    | (go_at_call 69; refine (day_r _ _ _ HD.out).mono ?_; rintro e wn ⟨rfl, rfl⟩))
                  go_ret2
                  exact ⟨ret_two HE.out.1 HE.out.2, HB.out⟩
                · have HD := Lib.hid hd
                  rcases Nat.eq_zero_or_pos k with hk0 | hk0
                  · have hb0 : befT l k z = false := by rw [hk0]; rfl
                    have hkd : decide ((0 : Int) < (k : Int)) = false := decide_eq_false (by omega)
                    have hkd2 : decide (0 < k) = false := decide_eq_false (by omega)
                    have HK0 := Lib.hid hk0
                    clear hk0
                    have HT2 := Lib.hid (show tErr ws l k = err2 ws z u by rw [HT.out, HC.out, hd, hb0]; simp [HU.out])
                    clear hd
                    cases hs : seq z.t u
                    · rw [hs] at es
                      cases hue : isE u
                      · rw [hue] at eu
                        cases hoo : o
                        · have HE := Lib.hid (FIN.out 15 (by rw [HT2.out]; simp [err2, hs, HTE.out, hue, HO.out, hoo]) (by decide))
                          subst hoo
                          clear hs hue
                          go_wp2_with (first
                            | (go_at_call 70; refine (before_r _ _ _ k z u _ hl6 (HR.out.to HB.out) HZ.out HU.out).mono ?_; rintro e wn ⟨rfl, hbn⟩; replace HB := Lib.hid (cur_step1 HB.out hbn); replace HK := Lib.hid (HK.out.to hbn); have d0 : wn.cell? ⟨g, 0, none⟩ = some (.string z.p) := HK.out.get (by simp); have d1 : wn.cell? ⟨g, 1, none⟩ = some (.string z.t) := HK.out.get (by simp); have d2 : wn.cell? ⟨g, 2, none⟩ = some (.int .i64 z.d) := HK.out.get (by simp); have hgl := HK.out.lt (b := g) (o := 2) (v := .int .i64 z.d) (by simp); clear hbn)
                            | (go_at_call 53; refine (name_r _ ?_ _ ?_ ?_).mono ?_; rotate_left 1; (first | exact HSP.out | exact HST.out); (first | exact HN1.out | exact HN2.out); rintro e wn ⟨rfl, hbn⟩; replace HB := Lib.hid (cur_step1 HB.out hbn); replace HK := Lib.hid (HK.out.to hbn); have d0 : wn.cell? ⟨g, 0, none⟩ = some (.string z.p) := HK.out.get (by simp); have d1 : wn.cell? ⟨g, 1, none⟩ = some (.string z.t) := HK.out.get (by simp); have d2 : wn.cell? ⟨g, 2, none⟩ = some (.int .i64 z.d) := HK.out.get (by simp); have hgl := HK.out.lt (b := g) (o := 2) (v := .int .i64 z.d) (by simp); clear hbn)
                            | (go_at_call 69; refine (day_r _ _ _ HD.out).mono ?_; rintro e wn ⟨rfl, rfl⟩))
                          go_quiet (fail)
                          go_wp2_with fail
                          refine (open_r _ _ _ z.d _ _ hwl6 (HWR.out.to (below_drewN HB.out _)) HO.out).mono ?_
                          rintro e wn ⟨rfl, hbn⟩
                          replace HB := Lib.hid (cur_step1 (below_drewN HB.out _) hbn)
                          go_wp2_with fail
                          go_ret2
                          exact ⟨ret_two HE.out.1 HE.out.2, HB.out⟩
                        · have HE := Lib.hid (show tErr ws l k = 0 by rw [HT2.out]; simp [err2, hs, HTE.out, hue, HO.out, hoo])
                          subst hoo
                          clear hs hue
                          go_wp2_with (first
                            | (go_at_call 70; refine (before_r _ _ _ k z u _ hl6 (HR.out.to HB.out) HZ.out HU.out).mono ?_; rintro e wn ⟨rfl, hbn⟩; replace HB := Lib.hid (cur_step1 HB.out hbn); replace HK := Lib.hid (HK.out.to hbn); have d0 : wn.cell? ⟨g, 0, none⟩ = some (.string z.p) := HK.out.get (by simp); have d1 : wn.cell? ⟨g, 1, none⟩ = some (.string z.t) := HK.out.get (by simp); have d2 : wn.cell? ⟨g, 2, none⟩ = some (.int .i64 z.d) := HK.out.get (by simp); have hgl := HK.out.lt (b := g) (o := 2) (v := .int .i64 z.d) (by simp); clear hbn)
                            | (go_at_call 53; refine (name_r _ ?_ _ ?_ ?_).mono ?_; rotate_left 1; (first | exact HSP.out | exact HST.out); (first | exact HN1.out | exact HN2.out); rintro e wn ⟨rfl, hbn⟩; replace HB := Lib.hid (cur_step1 HB.out hbn); replace HK := Lib.hid (HK.out.to hbn); have d0 : wn.cell? ⟨g, 0, none⟩ = some (.string z.p) := HK.out.get (by simp); have d1 : wn.cell? ⟨g, 1, none⟩ = some (.string z.t) := HK.out.get (by simp); have d2 : wn.cell? ⟨g, 2, none⟩ = some (.int .i64 z.d) := HK.out.get (by simp); have hgl := HK.out.lt (b := g) (o := 2) (v := .int .i64 z.d) (by simp); clear hbn)
                            | (go_at_call 69; refine (day_r _ _ _ HD.out).mono ?_; rintro e wn ⟨rfl, rfl⟩))
                          go_quiet (fail)
                          go_wp2_with fail
                          refine (open_r _ _ _ z.d _ _ hwl6 (HWR.out.to (below_drewN HB.out _)) HO.out).mono ?_
                          rintro e wn ⟨rfl, hbn⟩
                          replace HB := Lib.hid (cur_step1 (below_drewN HB.out _) hbn)
                          go_wp2_with fail
                          go_roundw
                          case rel => exact ⟨k + 1, hlt, by simp, NXT.out HE.out, HB.out⟩
                          case measure => simp [intOf]; omega
                      · rw [hue] at eu
                        have HE := Lib.hid (show tErr ws l k = 0 by rw [HT2.out]; simp [err2, hs, HTE.out, hue])
                        clear hs hue
                        go_wp2_with (first
                          | (go_at_call 70; refine (before_r _ _ _ k z u _ hl6 (HR.out.to HB.out) HZ.out HU.out).mono ?_; rintro e wn ⟨rfl, hbn⟩; replace HB := Lib.hid (cur_step1 HB.out hbn); replace HK := Lib.hid (HK.out.to hbn); have d0 : wn.cell? ⟨g, 0, none⟩ = some (.string z.p) := HK.out.get (by simp); have d1 : wn.cell? ⟨g, 1, none⟩ = some (.string z.t) := HK.out.get (by simp); have d2 : wn.cell? ⟨g, 2, none⟩ = some (.int .i64 z.d) := HK.out.get (by simp); have hgl := HK.out.lt (b := g) (o := 2) (v := .int .i64 z.d) (by simp); clear hbn)
                          | (go_at_call 53; refine (name_r _ ?_ _ ?_ ?_).mono ?_; rotate_left 1; (first | exact HSP.out | exact HST.out); (first | exact HN1.out | exact HN2.out); rintro e wn ⟨rfl, hbn⟩; replace HB := Lib.hid (cur_step1 HB.out hbn); replace HK := Lib.hid (HK.out.to hbn); have d0 : wn.cell? ⟨g, 0, none⟩ = some (.string z.p) := HK.out.get (by simp); have d1 : wn.cell? ⟨g, 1, none⟩ = some (.string z.t) := HK.out.get (by simp); have d2 : wn.cell? ⟨g, 2, none⟩ = some (.int .i64 z.d) := HK.out.get (by simp); have hgl := HK.out.lt (b := g) (o := 2) (v := .int .i64 z.d) (by simp); clear hbn)
                          | (go_at_call 69; refine (day_r _ _ _ HD.out).mono ?_; rintro e wn ⟨rfl, rfl⟩))
                        go_quiet (fail)
                        go_wp2_with fail
                        go_roundw
                        case rel => exact ⟨k + 1, hlt, by simp, NXT.out HE.out, below_drewN HB.out _⟩
                        case measure => simp [intOf]; omega
                    · rw [hs] at es
                      have HE := Lib.hid (FIN.out 1 (by rw [HT2.out]; simp [err2, hs]) (by decide))
                      clear hs
                      go_wp2_with (first
                        | (go_at_call 70; refine (before_r _ _ _ k z u _ hl6 (HR.out.to HB.out) HZ.out HU.out).mono ?_; rintro e wn ⟨rfl, hbn⟩; replace HB := Lib.hid (cur_step1 HB.out hbn); replace HK := Lib.hid (HK.out.to hbn); have d0 : wn.cell? ⟨g, 0, none⟩ = some (.string z.p) := HK.out.get (by simp); have d1 : wn.cell? ⟨g, 1, none⟩ = some (.string z.t) := HK.out.get (by simp); have d2 : wn.cell? ⟨g, 2, none⟩ = some (.int .i64 z.d) := HK.out.get (by simp); have hgl := HK.out.lt (b := g) (o := 2) (v := .int .i64 z.d) (by simp); clear hbn)
                        | (go_at_call 53; refine (name_r _ ?_ _ ?_ ?_).mono ?_; rotate_left 1; (first | exact HSP.out | exact HST.out); (first | exact HN1.out | exact HN2.out); rintro e wn ⟨rfl, hbn⟩; replace HB := Lib.hid (cur_step1 HB.out hbn); replace HK := Lib.hid (HK.out.to hbn); have d0 : wn.cell? ⟨g, 0, none⟩ = some (.string z.p) := HK.out.get (by simp); have d1 : wn.cell? ⟨g, 1, none⟩ = some (.string z.t) := HK.out.get (by simp); have d2 : wn.cell? ⟨g, 2, none⟩ = some (.int .i64 z.d) := HK.out.get (by simp); have hgl := HK.out.lt (b := g) (o := 2) (v := .int .i64 z.d) (by simp); clear hbn)
                        | (go_at_call 69; refine (day_r _ _ _ HD.out).mono ?_; rintro e wn ⟨rfl, rfl⟩))
                      go_quiet (fail)
                      go_wp2_with fail
                      go_ret2
                      exact ⟨ret_two HE.out.1 HE.out.2, below_drewN HB.out _⟩
                  · obtain ⟨q, hq⟩ : ∃ q, k = q + 1 := ⟨k - 1, by omega⟩
                    have hi : (k : Int) - 1 = (q : Int) := by omega
                    have hql : q < l.length := by omega
                    have hkd : decide ((0 : Int) < (k : Int)) = true := decide_eq_true (by omega)
                    have hqd : decide ((q : Int) < (l.length : Int)) = true := decide_eq_true (by omega)
                    have hqb : (0 : Int) ≤ (q : Int) := by omega
                    have hqb2 : (q : Int) < (l.length : Int) := by omega
                    have hwr : IntKind.i64.wrap ((k : Int) - 1) = (q : Int) := by (rw [hi]; simp [IntKind.wrap, IntKind.bits, IntKind.signed]; omega)
                    obtain ⟨y, hy⟩ : ∃ y, l[q]? = some y := ⟨_, List.getElem?_eq_getElem hql⟩
                    have HBT := Lib.hid (show befT l k z = badO y z by rw [hq, befT_at hy])
                    have HY := Lib.hid hy
                    obtain ⟨b5, off5, h5, _, hcl5⟩ := HR.out.at_ (Below.refl _ _) hy
                    injection h5 with h5
                    injection h5 with h6 h7 _
                    subst h6 h7
                    obtain ⟨p0, p1, p2⟩ := tr_cells hcl5
                    clear hcl5
                    have HQ := Lib.hid hq
                    clear hq hy
                    have el := leq_eq y.p.toList z.p.toList
                    rw [slt_to y.p z.p] at el
                    cases h5 : decide (z.d < y.d)
                    · cases h6 : (z.d == y.d)
                      · have hb0 : befT l k z = false := by rw [HBT.out]; unfold badO; rw [h5]; simp at h6 ⊢; simp [h6]
                        have HT2 := Lib.hid (show tErr ws l k = err2 ws z u by rw [HT.out, HC.out, hd, hb0]; simp [HU.out])
                        clear hd
                        cases hs : seq z.t u
                        · rw [hs] at es
                          cases hue : isE u
                          · rw [hue] at eu
                            cases hoo : o
                            · have HE := Lib.hid (FIN.out 15 (by rw [HT2.out]; simp [err2, hs, HTE.out, hue, HO.out, hoo]) (by decide))
                              subst hoo
                              clear hs hue
                              go_wp2_with (first
                                | (go_at_call 70; refine (before_r _ _ _ k z u _ hl6 (HR.out.to HB.out) HZ.out HU.out).mono ?_; rintro e wn ⟨rfl, hbn⟩; replace HB := Lib.hid (cur_step1 HB.out hbn); replace HK := Lib.hid (HK.out.to hbn); have d0 : wn.cell? ⟨g, 0, none⟩ = some (.string z.p) := HK.out.get (by simp); have d1 : wn.cell? ⟨g, 1, none⟩ = some (.string z.t) := HK.out.get (by simp); have d2 : wn.cell? ⟨g, 2, none⟩ = some (.int .i64 z.d) := HK.out.get (by simp); have hgl := HK.out.lt (b := g) (o := 2) (v := .int .i64 z.d) (by simp); clear hbn)
                                | (go_at_call 53; refine (name_r _ ?_ _ ?_ ?_).mono ?_; rotate_left 1; (first | exact HSP.out | exact HST.out); (first | exact HN1.out | exact HN2.out); rintro e wn ⟨rfl, hbn⟩; replace HB := Lib.hid (cur_step1 HB.out hbn); replace HK := Lib.hid (HK.out.to hbn); have d0 : wn.cell? ⟨g, 0, none⟩ = some (.string z.p) := HK.out.get (by simp); have d1 : wn.cell? ⟨g, 1, none⟩ = some (.string z.t) := HK.out.get (by simp); have d2 : wn.cell? ⟨g, 2, none⟩ = some (.int .i64 z.d) := HK.out.get (by simp); have hgl := HK.out.lt (b := g) (o := 2) (v := .int .i64 z.d) (by simp); clear hbn)
                                | (go_at_call 69; refine (day_r _ _ _ HD.out).mono ?_; rintro e wn ⟨rfl, rfl⟩))
                              have y0 := (HB.out.cell (p := ⟨b, off + q * 3, none⟩) hbb).trans p0
                              have y2 := (HB.out.cell (p := ⟨b, off + q * 3 + 2, none⟩) hbb).trans p2
                              have hbn2 : b < wn.heap.size := by have := HB.out.size; omega
                              go_quiet (fail)
                              go_wp2_with fail
                              refine (open_r _ _ _ z.d _ _ hwl6 (HWR.out.to (below_drewN HB.out _)) HO.out).mono ?_
                              rintro e wn ⟨rfl, hbn⟩
                              replace HB := Lib.hid (cur_step1 (below_drewN HB.out _) hbn)
                              go_wp2_with fail
                              go_ret2
                              exact ⟨ret_two HE.out.1 HE.out.2, HB.out⟩
                            · have HE := Lib.hid (show tErr ws l k = 0 by rw [HT2.out]; simp [err2, hs, HTE.out, hue, HO.out, hoo])
                              subst hoo
                              clear hs hue
                              go_wp2_with (first
                                | (go_at_call 70; refine (before_r _ _ _ k z u _ hl6 (HR.out.to HB.out) HZ.out HU.out).mono ?_; rintro e wn ⟨rfl, hbn⟩; replace HB := Lib.hid (cur_step1 HB.out hbn); replace HK := Lib.hid (HK.out.to hbn); have d0 : wn.cell? ⟨g, 0, none⟩ = some (.string z.p) := HK.out.get (by simp); have d1 : wn.cell? ⟨g, 1, none⟩ = some (.string z.t) := HK.out.get (by simp); have d2 : wn.cell? ⟨g, 2, none⟩ = some (.int .i64 z.d) := HK.out.get (by simp); have hgl := HK.out.lt (b := g) (o := 2) (v := .int .i64 z.d) (by simp); clear hbn)
                                | (go_at_call 53; refine (name_r _ ?_ _ ?_ ?_).mono ?_; rotate_left 1; (first | exact HSP.out | exact HST.out); (first | exact HN1.out | exact HN2.out); rintro e wn ⟨rfl, hbn⟩; replace HB := Lib.hid (cur_step1 HB.out hbn); replace HK := Lib.hid (HK.out.to hbn); have d0 : wn.cell? ⟨g, 0, none⟩ = some (.string z.p) := HK.out.get (by simp); have d1 : wn.cell? ⟨g, 1, none⟩ = some (.string z.t) := HK.out.get (by simp); have d2 : wn.cell? ⟨g, 2, none⟩ = some (.int .i64 z.d) := HK.out.get (by simp); have hgl := HK.out.lt (b := g) (o := 2) (v := .int .i64 z.d) (by simp); clear hbn)
                                | (go_at_call 69; refine (day_r _ _ _ HD.out).mono ?_; rintro e wn ⟨rfl, rfl⟩))
                              have y0 := (HB.out.cell (p := ⟨b, off + q * 3, none⟩) hbb).trans p0
                              have y2 := (HB.out.cell (p := ⟨b, off + q * 3 + 2, none⟩) hbb).trans p2
                              have hbn2 : b < wn.heap.size := by have := HB.out.size; omega
                              go_quiet (fail)
                              go_wp2_with fail
                              refine (open_r _ _ _ z.d _ _ hwl6 (HWR.out.to (below_drewN HB.out _)) HO.out).mono ?_
                              rintro e wn ⟨rfl, hbn⟩
                              replace HB := Lib.hid (cur_step1 (below_drewN HB.out _) hbn)
                              go_wp2_with fail
                              go_roundw
                              case rel => exact ⟨k + 1, hlt, by simp, NXT.out HE.out, HB.out⟩
                              case measure => simp [intOf]; omega
                          · rw [hue] at eu
                            have HE := Lib.hid (show tErr ws l k = 0 by rw [HT2.out]; simp [err2, hs, HTE.out, hue])
                            clear hs hue
                            go_wp2_with (first
                              | (go_at_call 70; refine (before_r _ _ _ k z u _ hl6 (HR.out.to HB.out) HZ.out HU.out).mono ?_; rintro e wn ⟨rfl, hbn⟩; replace HB := Lib.hid (cur_step1 HB.out hbn); replace HK := Lib.hid (HK.out.to hbn); have d0 : wn.cell? ⟨g, 0, none⟩ = some (.string z.p) := HK.out.get (by simp); have d1 : wn.cell? ⟨g, 1, none⟩ = some (.string z.t) := HK.out.get (by simp); have d2 : wn.cell? ⟨g, 2, none⟩ = some (.int .i64 z.d) := HK.out.get (by simp); have hgl := HK.out.lt (b := g) (o := 2) (v := .int .i64 z.d) (by simp); clear hbn)
                              | (go_at_call 53; refine (name_r _ ?_ _ ?_ ?_).mono ?_; rotate_left 1; (first | exact HSP.out | exact HST.out); (first | exact HN1.out | exact HN2.out); rintro e wn ⟨rfl, hbn⟩; replace HB := Lib.hid (cur_step1 HB.out hbn); replace HK := Lib.hid (HK.out.to hbn); have d0 : wn.cell? ⟨g, 0, none⟩ = some (.string z.p) := HK.out.get (by simp); have d1 : wn.cell? ⟨g, 1, none⟩ = some (.string z.t) := HK.out.get (by simp); have d2 : wn.cell? ⟨g, 2, none⟩ = some (.int .i64 z.d) := HK.out.get (by simp); have hgl := HK.out.lt (b := g) (o := 2) (v := .int .i64 z.d) (by simp); clear hbn)
                              | (go_at_call 69; refine (day_r _ _ _ HD.out).mono ?_; rintro e wn ⟨rfl, rfl⟩))
                            have y0 := (HB.out.cell (p := ⟨b, off + q * 3, none⟩) hbb).trans p0
                            have y2 := (HB.out.cell (p := ⟨b, off + q * 3 + 2, none⟩) hbb).trans p2
                            have hbn2 : b < wn.heap.size := by have := HB.out.size; omega
                            go_quiet (fail)
                            go_wp2_with fail
                            go_roundw
                            case rel => exact ⟨k + 1, hlt, by simp, NXT.out HE.out, below_drewN HB.out _⟩
                            case measure => simp [intOf]; omega
                        · rw [hs] at es
                          have HE := Lib.hid (FIN.out 1 (by rw [HT2.out]; simp [err2, hs]) (by decide))
                          clear hs
                          go_wp2_with (first
                            | (go_at_call 70; refine (before_r _ _ _ k z u _ hl6 (HR.out.to HB.out) HZ.out HU.out).mono ?_; rintro e wn ⟨rfl, hbn⟩; replace HB := Lib.hid (cur_step1 HB.out hbn); replace HK := Lib.hid (HK.out.to hbn); have d0 : wn.cell? ⟨g, 0, none⟩ = some (.string z.p) := HK.out.get (by simp); have d1 : wn.cell? ⟨g, 1, none⟩ = some (.string z.t) := HK.out.get (by simp); have d2 : wn.cell? ⟨g, 2, none⟩ = some (.int .i64 z.d) := HK.out.get (by simp); have hgl := HK.out.lt (b := g) (o := 2) (v := .int .i64 z.d) (by simp); clear hbn)
                            | (go_at_call 53; refine (name_r _ ?_ _ ?_ ?_).mono ?_; rotate_left 1; (first | exact HSP.out | exact HST.out); (first | exact HN1.out | exact HN2.out); rintro e wn ⟨rfl, hbn⟩; replace HB := Lib.hid (cur_step1 HB.out hbn); replace HK := Lib.hid (HK.out.to hbn); have d0 : wn.cell? ⟨g, 0, none⟩ = some (.string z.p) := HK.out.get (by simp); have d1 : wn.cell? ⟨g, 1, none⟩ = some (.string z.t) := HK.out.get (by simp); have d2 : wn.cell? ⟨g, 2, none⟩ = some (.int .i64 z.d) := HK.out.get (by simp); have hgl := HK.out.lt (b := g) (o := 2) (v := .int .i64 z.d) (by simp); clear hbn)
                            | (go_at_call 69; refine (day_r _ _ _ HD.out).mono ?_; rintro e wn ⟨rfl, rfl⟩))
                          have y0 := (HB.out.cell (p := ⟨b, off + q * 3, none⟩) hbb).trans p0
                          have y2 := (HB.out.cell (p := ⟨b, off + q * 3 + 2, none⟩) hbb).trans p2
                          have hbn2 : b < wn.heap.size := by have := HB.out.size; omega
                          go_quiet (fail)
                          go_wp2_with fail
                          go_ret2
                          exact ⟨ret_two HE.out.1 HE.out.2, below_drewN HB.out _⟩
                      · cases h7 : slt y.p z.p
                        · rw [h7] at el
                          have h8 : decide (z.d = y.d) = true := by simpa using h6
                          have HE := Lib.hid (FIN.out 8 (by rw [HT.out, HC.out, hd, HBT.out]; unfold badO; rw [h5, h8, h7]; rfl) (by decide))
                          clear hd
                          go_wp2_with (first
                            | (go_at_call 70; refine (before_r _ _ _ k z u _ hl6 (HR.out.to HB.out) HZ.out HU.out).mono ?_; rintro e wn ⟨rfl, hbn⟩; replace HB := Lib.hid (cur_step1 HB.out hbn); replace HK := Lib.hid (HK.out.to hbn); have d0 : wn.cell? ⟨g, 0, none⟩ = some (.string z.p) := HK.out.get (by simp); have d1 : wn.cell? ⟨g, 1, none⟩ = some (.string z.t) := HK.out.get (by simp); have d2 : wn.cell? ⟨g, 2, none⟩ = some (.int .i64 z.d) := HK.out.get (by simp); have hgl := HK.out.lt (b := g) (o := 2) (v := .int .i64 z.d) (by simp); clear hbn)
                            | (go_at_call 53; refine (name_r _ ?_ _ ?_ ?_).mono ?_; rotate_left 1; (first | exact HSP.out | exact HST.out); (first | exact HN1.out | exact HN2.out); rintro e wn ⟨rfl, hbn⟩; replace HB := Lib.hid (cur_step1 HB.out hbn); replace HK := Lib.hid (HK.out.to hbn); have d0 : wn.cell? ⟨g, 0, none⟩ = some (.string z.p) := HK.out.get (by simp); have d1 : wn.cell? ⟨g, 1, none⟩ = some (.string z.t) := HK.out.get (by simp); have d2 : wn.cell? ⟨g, 2, none⟩ = some (.int .i64 z.d) := HK.out.get (by simp); have hgl := HK.out.lt (b := g) (o := 2) (v := .int .i64 z.d) (by simp); clear hbn)
                            | (go_at_call 69; refine (day_r _ _ _ HD.out).mono ?_; rintro e wn ⟨rfl, rfl⟩))
                          have y0 := (HB.out.cell (p := ⟨b, off + q * 3, none⟩) hbb).trans p0
                          have y2 := (HB.out.cell (p := ⟨b, off + q * 3 + 2, none⟩) hbb).trans p2
                          have hbn2 : b < wn.heap.size := by have := HB.out.size; omega
                          go_quiet (fail)
                          go_wp2_with fail
                          go_ret2
                          exact ⟨ret_two HE.out.1 HE.out.2, below_drewN HB.out _⟩
                        · rw [h7] at el
                          have hb0 : befT l k z = false := by rw [HBT.out]; unfold badO; rw [h5, h7]; simp
                          clear h7
                          have HT2 := Lib.hid (show tErr ws l k = err2 ws z u by rw [HT.out, HC.out, hd, hb0]; simp [HU.out])
                          clear hd
                          cases hs : seq z.t u
                          · rw [hs] at es
                            cases hue : isE u
                            · rw [hue] at eu
                              cases hoo : o
                              · have HE := Lib.hid (FIN.out 15 (by rw [HT2.out]; simp [err2, hs, HTE.out, hue, HO.out, hoo]) (by decide))
                                subst hoo
                                clear hs hue
                                go_wp2_with (first
                                  | (go_at_call 70; refine (before_r _ _ _ k z u _ hl6 (HR.out.to HB.out) HZ.out HU.out).mono ?_; rintro e wn ⟨rfl, hbn⟩; replace HB := Lib.hid (cur_step1 HB.out hbn); replace HK := Lib.hid (HK.out.to hbn); have d0 : wn.cell? ⟨g, 0, none⟩ = some (.string z.p) := HK.out.get (by simp); have d1 : wn.cell? ⟨g, 1, none⟩ = some (.string z.t) := HK.out.get (by simp); have d2 : wn.cell? ⟨g, 2, none⟩ = some (.int .i64 z.d) := HK.out.get (by simp); have hgl := HK.out.lt (b := g) (o := 2) (v := .int .i64 z.d) (by simp); clear hbn)
                                  | (go_at_call 53; refine (name_r _ ?_ _ ?_ ?_).mono ?_; rotate_left 1; (first | exact HSP.out | exact HST.out); (first | exact HN1.out | exact HN2.out); rintro e wn ⟨rfl, hbn⟩; replace HB := Lib.hid (cur_step1 HB.out hbn); replace HK := Lib.hid (HK.out.to hbn); have d0 : wn.cell? ⟨g, 0, none⟩ = some (.string z.p) := HK.out.get (by simp); have d1 : wn.cell? ⟨g, 1, none⟩ = some (.string z.t) := HK.out.get (by simp); have d2 : wn.cell? ⟨g, 2, none⟩ = some (.int .i64 z.d) := HK.out.get (by simp); have hgl := HK.out.lt (b := g) (o := 2) (v := .int .i64 z.d) (by simp); clear hbn)
                                  | (go_at_call 69; refine (day_r _ _ _ HD.out).mono ?_; rintro e wn ⟨rfl, rfl⟩))
                                have y0 := (HB.out.cell (p := ⟨b, off + q * 3, none⟩) hbb).trans p0
                                have y2 := (HB.out.cell (p := ⟨b, off + q * 3 + 2, none⟩) hbb).trans p2
                                have hbn2 : b < wn.heap.size := by have := HB.out.size; omega
                                go_quiet (fail)
                                go_wp2_with fail
                                refine (open_r _ _ _ z.d _ _ hwl6 (HWR.out.to (below_drewN HB.out _)) HO.out).mono ?_
                                rintro e wn ⟨rfl, hbn⟩
                                replace HB := Lib.hid (cur_step1 (below_drewN HB.out _) hbn)
                                go_wp2_with fail
                                go_ret2
                                exact ⟨ret_two HE.out.1 HE.out.2, HB.out⟩
                              · have HE := Lib.hid (show tErr ws l k = 0 by rw [HT2.out]; simp [err2, hs, HTE.out, hue, HO.out, hoo])
                                subst hoo
                                clear hs hue
                                go_wp2_with (first
                                  | (go_at_call 70; refine (before_r _ _ _ k z u _ hl6 (HR.out.to HB.out) HZ.out HU.out).mono ?_; rintro e wn ⟨rfl, hbn⟩; replace HB := Lib.hid (cur_step1 HB.out hbn); replace HK := Lib.hid (HK.out.to hbn); have d0 : wn.cell? ⟨g, 0, none⟩ = some (.string z.p) := HK.out.get (by simp); have d1 : wn.cell? ⟨g, 1, none⟩ = some (.string z.t) := HK.out.get (by simp); have d2 : wn.cell? ⟨g, 2, none⟩ = some (.int .i64 z.d) := HK.out.get (by simp); have hgl := HK.out.lt (b := g) (o := 2) (v := .int .i64 z.d) (by simp); clear hbn)
                                  | (go_at_call 53; refine (name_r _ ?_ _ ?_ ?_).mono ?_; rotate_left 1; (first | exact HSP.out | exact HST.out); (first | exact HN1.out | exact HN2.out); rintro e wn ⟨rfl, hbn⟩; replace HB := Lib.hid (cur_step1 HB.out hbn); replace HK := Lib.hid (HK.out.to hbn); have d0 : wn.cell? ⟨g, 0, none⟩ = some (.string z.p) := HK.out.get (by simp); have d1 : wn.cell? ⟨g, 1, none⟩ = some (.string z.t) := HK.out.get (by simp); have d2 : wn.cell? ⟨g, 2, none⟩ = some (.int .i64 z.d) := HK.out.get (by simp); have hgl := HK.out.lt (b := g) (o := 2) (v := .int .i64 z.d) (by simp); clear hbn)
                                  | (go_at_call 69; refine (day_r _ _ _ HD.out).mono ?_; rintro e wn ⟨rfl, rfl⟩))
                                have y0 := (HB.out.cell (p := ⟨b, off + q * 3, none⟩) hbb).trans p0
                                have y2 := (HB.out.cell (p := ⟨b, off + q * 3 + 2, none⟩) hbb).trans p2
                                have hbn2 : b < wn.heap.size := by have := HB.out.size; omega
                                go_quiet (fail)
                                go_wp2_with fail
                                refine (open_r _ _ _ z.d _ _ hwl6 (HWR.out.to (below_drewN HB.out _)) HO.out).mono ?_
                                rintro e wn ⟨rfl, hbn⟩
                                replace HB := Lib.hid (cur_step1 (below_drewN HB.out _) hbn)
                                go_wp2_with fail
                                go_roundw
                                case rel => exact ⟨k + 1, hlt, by simp, NXT.out HE.out, HB.out⟩
                                case measure => simp [intOf]; omega
                            · rw [hue] at eu
                              have HE := Lib.hid (show tErr ws l k = 0 by rw [HT2.out]; simp [err2, hs, HTE.out, hue])
                              clear hs hue
                              go_wp2_with (first
                                | (go_at_call 70; refine (before_r _ _ _ k z u _ hl6 (HR.out.to HB.out) HZ.out HU.out).mono ?_; rintro e wn ⟨rfl, hbn⟩; replace HB := Lib.hid (cur_step1 HB.out hbn); replace HK := Lib.hid (HK.out.to hbn); have d0 : wn.cell? ⟨g, 0, none⟩ = some (.string z.p) := HK.out.get (by simp); have d1 : wn.cell? ⟨g, 1, none⟩ = some (.string z.t) := HK.out.get (by simp); have d2 : wn.cell? ⟨g, 2, none⟩ = some (.int .i64 z.d) := HK.out.get (by simp); have hgl := HK.out.lt (b := g) (o := 2) (v := .int .i64 z.d) (by simp); clear hbn)
                                | (go_at_call 53; refine (name_r _ ?_ _ ?_ ?_).mono ?_; rotate_left 1; (first | exact HSP.out | exact HST.out); (first | exact HN1.out | exact HN2.out); rintro e wn ⟨rfl, hbn⟩; replace HB := Lib.hid (cur_step1 HB.out hbn); replace HK := Lib.hid (HK.out.to hbn); have d0 : wn.cell? ⟨g, 0, none⟩ = some (.string z.p) := HK.out.get (by simp); have d1 : wn.cell? ⟨g, 1, none⟩ = some (.string z.t) := HK.out.get (by simp); have d2 : wn.cell? ⟨g, 2, none⟩ = some (.int .i64 z.d) := HK.out.get (by simp); have hgl := HK.out.lt (b := g) (o := 2) (v := .int .i64 z.d) (by simp); clear hbn)
                                | (go_at_call 69; refine (day_r _ _ _ HD.out).mono ?_; rintro e wn ⟨rfl, rfl⟩))
                              have y0 := (HB.out.cell (p := ⟨b, off + q * 3, none⟩) hbb).trans p0
                              have y2 := (HB.out.cell (p := ⟨b, off + q * 3 + 2, none⟩) hbb).trans p2
                              have hbn2 : b < wn.heap.size := by have := HB.out.size; omega
                              go_quiet (fail)
                              go_wp2_with fail
                              go_roundw
                              case rel => exact ⟨k + 1, hlt, by simp, NXT.out HE.out, below_drewN HB.out _⟩
                              case measure => simp [intOf]; omega
                          · rw [hs] at es
                            have HE := Lib.hid (FIN.out 1 (by rw [HT2.out]; simp [err2, hs]) (by decide))
                            clear hs
                            go_wp2_with (first
                              | (go_at_call 70; refine (before_r _ _ _ k z u _ hl6 (HR.out.to HB.out) HZ.out HU.out).mono ?_; rintro e wn ⟨rfl, hbn⟩; replace HB := Lib.hid (cur_step1 HB.out hbn); replace HK := Lib.hid (HK.out.to hbn); have d0 : wn.cell? ⟨g, 0, none⟩ = some (.string z.p) := HK.out.get (by simp); have d1 : wn.cell? ⟨g, 1, none⟩ = some (.string z.t) := HK.out.get (by simp); have d2 : wn.cell? ⟨g, 2, none⟩ = some (.int .i64 z.d) := HK.out.get (by simp); have hgl := HK.out.lt (b := g) (o := 2) (v := .int .i64 z.d) (by simp); clear hbn)
                              | (go_at_call 53; refine (name_r _ ?_ _ ?_ ?_).mono ?_; rotate_left 1; (first | exact HSP.out | exact HST.out); (first | exact HN1.out | exact HN2.out); rintro e wn ⟨rfl, hbn⟩; replace HB := Lib.hid (cur_step1 HB.out hbn); replace HK := Lib.hid (HK.out.to hbn); have d0 : wn.cell? ⟨g, 0, none⟩ = some (.string z.p) := HK.out.get (by simp); have d1 : wn.cell? ⟨g, 1, none⟩ = some (.string z.t) := HK.out.get (by simp); have d2 : wn.cell? ⟨g, 2, none⟩ = some (.int .i64 z.d) := HK.out.get (by simp); have hgl := HK.out.lt (b := g) (o := 2) (v := .int .i64 z.d) (by simp); clear hbn)
                              | (go_at_call 69; refine (day_r _ _ _ HD.out).mono ?_; rintro e wn ⟨rfl, rfl⟩))
                            have y0 := (HB.out.cell (p := ⟨b, off + q * 3, none⟩) hbb).trans p0
                            have y2 := (HB.out.cell (p := ⟨b, off + q * 3 + 2, none⟩) hbb).trans p2
                            have hbn2 : b < wn.heap.size := by have := HB.out.size; omega
                            go_quiet (fail)
                            go_wp2_with fail
                            go_ret2
                            exact ⟨ret_two HE.out.1 HE.out.2, below_drewN HB.out _⟩
                    · have HE := Lib.hid (FIN.out 8 (by rw [HT.out, HC.out, hd, HBT.out]; unfold badO; rw [h5]; rfl) (by decide))
                      clear hd
                      go_wp2_with (first
                        | (go_at_call 70; refine (before_r _ _ _ k z u _ hl6 (HR.out.to HB.out) HZ.out HU.out).mono ?_; rintro e wn ⟨rfl, hbn⟩; replace HB := Lib.hid (cur_step1 HB.out hbn); replace HK := Lib.hid (HK.out.to hbn); have d0 : wn.cell? ⟨g, 0, none⟩ = some (.string z.p) := HK.out.get (by simp); have d1 : wn.cell? ⟨g, 1, none⟩ = some (.string z.t) := HK.out.get (by simp); have d2 : wn.cell? ⟨g, 2, none⟩ = some (.int .i64 z.d) := HK.out.get (by simp); have hgl := HK.out.lt (b := g) (o := 2) (v := .int .i64 z.d) (by simp); clear hbn)
                        | (go_at_call 53; refine (name_r _ ?_ _ ?_ ?_).mono ?_; rotate_left 1; (first | exact HSP.out | exact HST.out); (first | exact HN1.out | exact HN2.out); rintro e wn ⟨rfl, hbn⟩; replace HB := Lib.hid (cur_step1 HB.out hbn); replace HK := Lib.hid (HK.out.to hbn); have d0 : wn.cell? ⟨g, 0, none⟩ = some (.string z.p) := HK.out.get (by simp); have d1 : wn.cell? ⟨g, 1, none⟩ = some (.string z.t) := HK.out.get (by simp); have d2 : wn.cell? ⟨g, 2, none⟩ = some (.int .i64 z.d) := HK.out.get (by simp); have hgl := HK.out.lt (b := g) (o := 2) (v := .int .i64 z.d) (by simp); clear hbn)
                        | (go_at_call 69; refine (day_r _ _ _ HD.out).mono ?_; rintro e wn ⟨rfl, rfl⟩))
                      have y0 := (HB.out.cell (p := ⟨b, off + q * 3, none⟩) hbb).trans p0
                      have y2 := (HB.out.cell (p := ⟨b, off + q * 3 + 2, none⟩) hbb).trans p2
                      have hbn2 : b < wn.heap.size := by have := HB.out.size; omega
                      go_quiet (fail)
                      go_wp2_with fail
                      go_ret2
                      exact ⟨ret_two HE.out.1 HE.out.2, below_drewN HB.out _⟩
            · rw [hte] at et
              have HC := Lib.hid (show err1 l k z = if !isDayB z.d then 2 else if befT l k z then 8 else 0 by simp [err1, hn1, hte])
              have HN1 := Lib.hid hn1
              have HTE := Lib.hid hte
              clear hn1 hte
              cases hd : isDayB z.d
              · have HE := Lib.hid (FIN.out 2 (by rw [HT.out, HC.out, hd]; rfl) (by decide))
                have HD := Lib.hid hd
                clear hd
                go_wp2_with (first
                  | (go_at_call 70; refine (before_r _ _ _ k z u _ hl6 (HR.out.to HB.out) HZ.out HU.out).mono ?_; rintro e wn ⟨rfl, hbn⟩; replace HB := Lib.hid (cur_step1 HB.out hbn); replace HK := Lib.hid (HK.out.to hbn); have d0 : wn.cell? ⟨g, 0, none⟩ = some (.string z.p) := HK.out.get (by simp); have d1 : wn.cell? ⟨g, 1, none⟩ = some (.string z.t) := HK.out.get (by simp); have d2 : wn.cell? ⟨g, 2, none⟩ = some (.int .i64 z.d) := HK.out.get (by simp); have hgl := HK.out.lt (b := g) (o := 2) (v := .int .i64 z.d) (by simp); clear hbn)
                  | (go_at_call 53; refine (name_r _ ?_ _ ?_ ?_).mono ?_; rotate_left 1; (first | exact HSP.out | exact HST.out); (first | exact HN1.out); rintro e wn ⟨rfl, hbn⟩; replace HB := Lib.hid (cur_step1 HB.out hbn); replace HK := Lib.hid (HK.out.to hbn); have d0 : wn.cell? ⟨g, 0, none⟩ = some (.string z.p) := HK.out.get (by simp); have d1 : wn.cell? ⟨g, 1, none⟩ = some (.string z.t) := HK.out.get (by simp); have d2 : wn.cell? ⟨g, 2, none⟩ = some (.int .i64 z.d) := HK.out.get (by simp); have hgl := HK.out.lt (b := g) (o := 2) (v := .int .i64 z.d) (by simp); clear hbn)
                  | (go_at_call 69; refine (day_r _ _ _ HD.out).mono ?_; rintro e wn ⟨rfl, rfl⟩))
                go_ret2
                exact ⟨ret_two HE.out.1 HE.out.2, HB.out⟩
              · have HD := Lib.hid hd
                rcases Nat.eq_zero_or_pos k with hk0 | hk0
                · have hb0 : befT l k z = false := by rw [hk0]; rfl
                  have hkd : decide ((0 : Int) < (k : Int)) = false := decide_eq_false (by omega)
                  have hkd2 : decide (0 < k) = false := decide_eq_false (by omega)
                  have HK0 := Lib.hid hk0
                  clear hk0
                  have HT2 := Lib.hid (show tErr ws l k = err2 ws z u by rw [HT.out, HC.out, hd, hb0]; simp [HU.out])
                  clear hd
                  cases hs : seq z.t u
                  · rw [hs] at es
                    have HE := Lib.hid (show tErr ws l k = 0 by rw [HT2.out]; simp [err2, hs, HTE.out])
                    clear hs
                    go_wp2_with (first
                      | (go_at_call 70; refine (before_r _ _ _ k z u _ hl6 (HR.out.to HB.out) HZ.out HU.out).mono ?_; rintro e wn ⟨rfl, hbn⟩; replace HB := Lib.hid (cur_step1 HB.out hbn); replace HK := Lib.hid (HK.out.to hbn); have d0 : wn.cell? ⟨g, 0, none⟩ = some (.string z.p) := HK.out.get (by simp); have d1 : wn.cell? ⟨g, 1, none⟩ = some (.string z.t) := HK.out.get (by simp); have d2 : wn.cell? ⟨g, 2, none⟩ = some (.int .i64 z.d) := HK.out.get (by simp); have hgl := HK.out.lt (b := g) (o := 2) (v := .int .i64 z.d) (by simp); clear hbn)
                      | (go_at_call 53; refine (name_r _ ?_ _ ?_ ?_).mono ?_; rotate_left 1; (first | exact HSP.out | exact HST.out); (first | exact HN1.out); rintro e wn ⟨rfl, hbn⟩; replace HB := Lib.hid (cur_step1 HB.out hbn); replace HK := Lib.hid (HK.out.to hbn); have d0 : wn.cell? ⟨g, 0, none⟩ = some (.string z.p) := HK.out.get (by simp); have d1 : wn.cell? ⟨g, 1, none⟩ = some (.string z.t) := HK.out.get (by simp); have d2 : wn.cell? ⟨g, 2, none⟩ = some (.int .i64 z.d) := HK.out.get (by simp); have hgl := HK.out.lt (b := g) (o := 2) (v := .int .i64 z.d) (by simp); clear hbn)
                      | (go_at_call 69; refine (day_r _ _ _ HD.out).mono ?_; rintro e wn ⟨rfl, rfl⟩))
                    go_quiet (fail)
                    go_wp2_with fail
                    go_roundw
                    case rel => exact ⟨k + 1, hlt, by simp, NXT.out HE.out, below_drewN HB.out _⟩
                    case measure => simp [intOf]; omega
                  · rw [hs] at es
                    have HE := Lib.hid (FIN.out 1 (by rw [HT2.out]; simp [err2, hs]) (by decide))
                    clear hs
                    go_wp2_with (first
                      | (go_at_call 70; refine (before_r _ _ _ k z u _ hl6 (HR.out.to HB.out) HZ.out HU.out).mono ?_; rintro e wn ⟨rfl, hbn⟩; replace HB := Lib.hid (cur_step1 HB.out hbn); replace HK := Lib.hid (HK.out.to hbn); have d0 : wn.cell? ⟨g, 0, none⟩ = some (.string z.p) := HK.out.get (by simp); have d1 : wn.cell? ⟨g, 1, none⟩ = some (.string z.t) := HK.out.get (by simp); have d2 : wn.cell? ⟨g, 2, none⟩ = some (.int .i64 z.d) := HK.out.get (by simp); have hgl := HK.out.lt (b := g) (o := 2) (v := .int .i64 z.d) (by simp); clear hbn)
                      | (go_at_call 53; refine (name_r _ ?_ _ ?_ ?_).mono ?_; rotate_left 1; (first | exact HSP.out | exact HST.out); (first | exact HN1.out); rintro e wn ⟨rfl, hbn⟩; replace HB := Lib.hid (cur_step1 HB.out hbn); replace HK := Lib.hid (HK.out.to hbn); have d0 : wn.cell? ⟨g, 0, none⟩ = some (.string z.p) := HK.out.get (by simp); have d1 : wn.cell? ⟨g, 1, none⟩ = some (.string z.t) := HK.out.get (by simp); have d2 : wn.cell? ⟨g, 2, none⟩ = some (.int .i64 z.d) := HK.out.get (by simp); have hgl := HK.out.lt (b := g) (o := 2) (v := .int .i64 z.d) (by simp); clear hbn)
                      | (go_at_call 69; refine (day_r _ _ _ HD.out).mono ?_; rintro e wn ⟨rfl, rfl⟩))
                    go_quiet (fail)
                    go_wp2_with fail
                    go_ret2
                    exact ⟨ret_two HE.out.1 HE.out.2, below_drewN HB.out _⟩
                · obtain ⟨q, hq⟩ : ∃ q, k = q + 1 := ⟨k - 1, by omega⟩
                  have hi : (k : Int) - 1 = (q : Int) := by omega
                  have hql : q < l.length := by omega
                  have hkd : decide ((0 : Int) < (k : Int)) = true := decide_eq_true (by omega)
                  have hqd : decide ((q : Int) < (l.length : Int)) = true := decide_eq_true (by omega)
                  have hqb : (0 : Int) ≤ (q : Int) := by omega
                  have hqb2 : (q : Int) < (l.length : Int) := by omega
                  have hwr : IntKind.i64.wrap ((k : Int) - 1) = (q : Int) := by (rw [hi]; simp [IntKind.wrap, IntKind.bits, IntKind.signed]; omega)
                  obtain ⟨y, hy⟩ : ∃ y, l[q]? = some y := ⟨_, List.getElem?_eq_getElem hql⟩
                  have HBT := Lib.hid (show befT l k z = badO y z by rw [hq, befT_at hy])
                  have HY := Lib.hid hy
                  obtain ⟨b5, off5, h5, _, hcl5⟩ := HR.out.at_ (Below.refl _ _) hy
                  injection h5 with h5
                  injection h5 with h6 h7 _
                  subst h6 h7
                  obtain ⟨p0, p1, p2⟩ := tr_cells hcl5
                  clear hcl5
                  have HQ := Lib.hid hq
                  clear hq hy
                  have el := leq_eq y.p.toList z.p.toList
                  rw [slt_to y.p z.p] at el
                  cases h5 : decide (z.d < y.d)
                  · cases h6 : (z.d == y.d)
                    · have hb0 : befT l k z = false := by rw [HBT.out]; unfold badO; rw [h5]; simp at h6 ⊢; simp [h6]
                      have HT2 := Lib.hid (show tErr ws l k = err2 ws z u by rw [HT.out, HC.out, hd, hb0]; simp [HU.out])
                      clear hd
                      cases hs : seq z.t u
                      · rw [hs] at es
                        have HE := Lib.hid (show tErr ws l k = 0 by rw [HT2.out]; simp [err2, hs, HTE.out])
                        clear hs
                        go_wp2_with (first
                          | (go_at_call 70; refine (before_r _ _ _ k z u _ hl6 (HR.out.to HB.out) HZ.out HU.out).mono ?_; rintro e wn ⟨rfl, hbn⟩; replace HB := Lib.hid (cur_step1 HB.out hbn); replace HK := Lib.hid (HK.out.to hbn); have d0 : wn.cell? ⟨g, 0, none⟩ = some (.string z.p) := HK.out.get (by simp); have d1 : wn.cell? ⟨g, 1, none⟩ = some (.string z.t) := HK.out.get (by simp); have d2 : wn.cell? ⟨g, 2, none⟩ = some (.int .i64 z.d) := HK.out.get (by simp); have hgl := HK.out.lt (b := g) (o := 2) (v := .int .i64 z.d) (by simp); clear hbn)
                          | (go_at_call 53; refine (name_r _ ?_ _ ?_ ?_).mono ?_; rotate_left 1; (first | exact HSP.out | exact HST.out); (first | exact HN1.out); rintro e wn ⟨rfl, hbn⟩; replace HB := Lib.hid (cur_step1 HB.out hbn); replace HK := Lib.hid (HK.out.to hbn); have d0 : wn.cell? ⟨g, 0, none⟩ = some (.string z.p) := HK.out.get (by simp); have d1 : wn.cell? ⟨g, 1, none⟩ = some (.string z.t) := HK.out.get (by simp); have d2 : wn.cell? ⟨g, 2, none⟩ = some (.int .i64 z.d) := HK.out.get (by simp); have hgl := HK.out.lt (b := g) (o := 2) (v := .int .i64 z.d) (by simp); clear hbn)
                          | (go_at_call 69; refine (day_r _ _ _ HD.out).mono ?_; rintro e wn ⟨rfl, rfl⟩))
                        have y0 := (HB.out.cell (p := ⟨b, off + q * 3, none⟩) hbb).trans p0
                        have y2 := (HB.out.cell (p := ⟨b, off + q * 3 + 2, none⟩) hbb).trans p2
                        have hbn2 : b < wn.heap.size := by have := HB.out.size; omega
                        go_quiet (fail)
                        go_wp2_with fail
                        go_roundw
                        case rel => exact ⟨k + 1, hlt, by simp, NXT.out HE.out, below_drewN HB.out _⟩
                        case measure => simp [intOf]; omega
                      · rw [hs] at es
                        have HE := Lib.hid (FIN.out 1 (by rw [HT2.out]; simp [err2, hs]) (by decide))
                        clear hs
                        go_wp2_with (first
                          | (go_at_call 70; refine (before_r _ _ _ k z u _ hl6 (HR.out.to HB.out) HZ.out HU.out).mono ?_; rintro e wn ⟨rfl, hbn⟩; replace HB := Lib.hid (cur_step1 HB.out hbn); replace HK := Lib.hid (HK.out.to hbn); have d0 : wn.cell? ⟨g, 0, none⟩ = some (.string z.p) := HK.out.get (by simp); have d1 : wn.cell? ⟨g, 1, none⟩ = some (.string z.t) := HK.out.get (by simp); have d2 : wn.cell? ⟨g, 2, none⟩ = some (.int .i64 z.d) := HK.out.get (by simp); have hgl := HK.out.lt (b := g) (o := 2) (v := .int .i64 z.d) (by simp); clear hbn)
                          | (go_at_call 53; refine (name_r _ ?_ _ ?_ ?_).mono ?_; rotate_left 1; (first | exact HSP.out | exact HST.out); (first | exact HN1.out); rintro e wn ⟨rfl, hbn⟩; replace HB := Lib.hid (cur_step1 HB.out hbn); replace HK := Lib.hid (HK.out.to hbn); have d0 : wn.cell? ⟨g, 0, none⟩ = some (.string z.p) := HK.out.get (by simp); have d1 : wn.cell? ⟨g, 1, none⟩ = some (.string z.t) := HK.out.get (by simp); have d2 : wn.cell? ⟨g, 2, none⟩ = some (.int .i64 z.d) := HK.out.get (by simp); have hgl := HK.out.lt (b := g) (o := 2) (v := .int .i64 z.d) (by simp); clear hbn)
                          | (go_at_call 69; refine (day_r _ _ _ HD.out).mono ?_; rintro e wn ⟨rfl, rfl⟩))
                        have y0 := (HB.out.cell (p := ⟨b, off + q * 3, none⟩) hbb).trans p0
                        have y2 := (HB.out.cell (p := ⟨b, off + q * 3 + 2, none⟩) hbb).trans p2
                        have hbn2 : b < wn.heap.size := by have := HB.out.size; omega
                        go_quiet (fail)
                        go_wp2_with fail
                        go_ret2
                        exact ⟨ret_two HE.out.1 HE.out.2, below_drewN HB.out _⟩
                    · cases h7 : slt y.p z.p
                      · rw [h7] at el
                        have h8 : decide (z.d = y.d) = true := by simpa using h6
                        have HE := Lib.hid (FIN.out 8 (by rw [HT.out, HC.out, hd, HBT.out]; unfold badO; rw [h5, h8, h7]; rfl) (by decide))
                        clear hd
                        go_wp2_with (first
                          | (go_at_call 70; refine (before_r _ _ _ k z u _ hl6 (HR.out.to HB.out) HZ.out HU.out).mono ?_; rintro e wn ⟨rfl, hbn⟩; replace HB := Lib.hid (cur_step1 HB.out hbn); replace HK := Lib.hid (HK.out.to hbn); have d0 : wn.cell? ⟨g, 0, none⟩ = some (.string z.p) := HK.out.get (by simp); have d1 : wn.cell? ⟨g, 1, none⟩ = some (.string z.t) := HK.out.get (by simp); have d2 : wn.cell? ⟨g, 2, none⟩ = some (.int .i64 z.d) := HK.out.get (by simp); have hgl := HK.out.lt (b := g) (o := 2) (v := .int .i64 z.d) (by simp); clear hbn)
                          | (go_at_call 53; refine (name_r _ ?_ _ ?_ ?_).mono ?_; rotate_left 1; (first | exact HSP.out | exact HST.out); (first | exact HN1.out); rintro e wn ⟨rfl, hbn⟩; replace HB := Lib.hid (cur_step1 HB.out hbn); replace HK := Lib.hid (HK.out.to hbn); have d0 : wn.cell? ⟨g, 0, none⟩ = some (.string z.p) := HK.out.get (by simp); have d1 : wn.cell? ⟨g, 1, none⟩ = some (.string z.t) := HK.out.get (by simp); have d2 : wn.cell? ⟨g, 2, none⟩ = some (.int .i64 z.d) := HK.out.get (by simp); have hgl := HK.out.lt (b := g) (o := 2) (v := .int .i64 z.d) (by simp); clear hbn)
                          | (go_at_call 69; refine (day_r _ _ _ HD.out).mono ?_; rintro e wn ⟨rfl, rfl⟩))
                        have y0 := (HB.out.cell (p := ⟨b, off + q * 3, none⟩) hbb).trans p0
                        have y2 := (HB.out.cell (p := ⟨b, off + q * 3 + 2, none⟩) hbb).trans p2
                        have hbn2 : b < wn.heap.size := by have := HB.out.size; omega
                        go_quiet (fail)
                        go_wp2_with fail
                        go_ret2
                        exact ⟨ret_two HE.out.1 HE.out.2, below_drewN HB.out _⟩
                      · rw [h7] at el
                        have hb0 : befT l k z = false := by rw [HBT.out]; unfold badO; rw [h5, h7]; simp
                        clear h7
                        have HT2 := Lib.hid (show tErr ws l k = err2 ws z u by rw [HT.out, HC.out, hd, hb0]; simp [HU.out])
                        clear hd
                        cases hs : seq z.t u
                        · rw [hs] at es
                          have HE := Lib.hid (show tErr ws l k = 0 by rw [HT2.out]; simp [err2, hs, HTE.out])
                          clear hs
                          go_wp2_with (first
                            | (go_at_call 70; refine (before_r _ _ _ k z u _ hl6 (HR.out.to HB.out) HZ.out HU.out).mono ?_; rintro e wn ⟨rfl, hbn⟩; replace HB := Lib.hid (cur_step1 HB.out hbn); replace HK := Lib.hid (HK.out.to hbn); have d0 : wn.cell? ⟨g, 0, none⟩ = some (.string z.p) := HK.out.get (by simp); have d1 : wn.cell? ⟨g, 1, none⟩ = some (.string z.t) := HK.out.get (by simp); have d2 : wn.cell? ⟨g, 2, none⟩ = some (.int .i64 z.d) := HK.out.get (by simp); have hgl := HK.out.lt (b := g) (o := 2) (v := .int .i64 z.d) (by simp); clear hbn)
                            | (go_at_call 53; refine (name_r _ ?_ _ ?_ ?_).mono ?_; rotate_left 1; (first | exact HSP.out | exact HST.out); (first | exact HN1.out); rintro e wn ⟨rfl, hbn⟩; replace HB := Lib.hid (cur_step1 HB.out hbn); replace HK := Lib.hid (HK.out.to hbn); have d0 : wn.cell? ⟨g, 0, none⟩ = some (.string z.p) := HK.out.get (by simp); have d1 : wn.cell? ⟨g, 1, none⟩ = some (.string z.t) := HK.out.get (by simp); have d2 : wn.cell? ⟨g, 2, none⟩ = some (.int .i64 z.d) := HK.out.get (by simp); have hgl := HK.out.lt (b := g) (o := 2) (v := .int .i64 z.d) (by simp); clear hbn)
                            | (go_at_call 69; refine (day_r _ _ _ HD.out).mono ?_; rintro e wn ⟨rfl, rfl⟩))
                          have y0 := (HB.out.cell (p := ⟨b, off + q * 3, none⟩) hbb).trans p0
                          have y2 := (HB.out.cell (p := ⟨b, off + q * 3 + 2, none⟩) hbb).trans p2
                          have hbn2 : b < wn.heap.size := by have := HB.out.size; omega
                          go_quiet (fail)
                          go_wp2_with fail
                          go_roundw
                          case rel => exact ⟨k + 1, hlt, by simp, NXT.out HE.out, below_drewN HB.out _⟩
                          case measure => simp [intOf]; omega
                        · rw [hs] at es
                          have HE := Lib.hid (FIN.out 1 (by rw [HT2.out]; simp [err2, hs]) (by decide))
                          clear hs
                          go_wp2_with (first
                            | (go_at_call 70; refine (before_r _ _ _ k z u _ hl6 (HR.out.to HB.out) HZ.out HU.out).mono ?_; rintro e wn ⟨rfl, hbn⟩; replace HB := Lib.hid (cur_step1 HB.out hbn); replace HK := Lib.hid (HK.out.to hbn); have d0 : wn.cell? ⟨g, 0, none⟩ = some (.string z.p) := HK.out.get (by simp); have d1 : wn.cell? ⟨g, 1, none⟩ = some (.string z.t) := HK.out.get (by simp); have d2 : wn.cell? ⟨g, 2, none⟩ = some (.int .i64 z.d) := HK.out.get (by simp); have hgl := HK.out.lt (b := g) (o := 2) (v := .int .i64 z.d) (by simp); clear hbn)
                            | (go_at_call 53; refine (name_r _ ?_ _ ?_ ?_).mono ?_; rotate_left 1; (first | exact HSP.out | exact HST.out); (first | exact HN1.out); rintro e wn ⟨rfl, hbn⟩; replace HB := Lib.hid (cur_step1 HB.out hbn); replace HK := Lib.hid (HK.out.to hbn); have d0 : wn.cell? ⟨g, 0, none⟩ = some (.string z.p) := HK.out.get (by simp); have d1 : wn.cell? ⟨g, 1, none⟩ = some (.string z.t) := HK.out.get (by simp); have d2 : wn.cell? ⟨g, 2, none⟩ = some (.int .i64 z.d) := HK.out.get (by simp); have hgl := HK.out.lt (b := g) (o := 2) (v := .int .i64 z.d) (by simp); clear hbn)
                            | (go_at_call 69; refine (day_r _ _ _ HD.out).mono ?_; rintro e wn ⟨rfl, rfl⟩))
                          have y0 := (HB.out.cell (p := ⟨b, off + q * 3, none⟩) hbb).trans p0
                          have y2 := (HB.out.cell (p := ⟨b, off + q * 3 + 2, none⟩) hbb).trans p2
                          have hbn2 : b < wn.heap.size := by have := HB.out.size; omega
                          go_quiet (fail)
                          go_wp2_with fail
                          go_ret2
                          exact ⟨ret_two HE.out.1 HE.out.2, below_drewN HB.out _⟩
                  · have HE := Lib.hid (FIN.out 8 (by rw [HT.out, HC.out, hd, HBT.out]; unfold badO; rw [h5]; rfl) (by decide))
                    clear hd
                    go_wp2_with (first
                      | (go_at_call 70; refine (before_r _ _ _ k z u _ hl6 (HR.out.to HB.out) HZ.out HU.out).mono ?_; rintro e wn ⟨rfl, hbn⟩; replace HB := Lib.hid (cur_step1 HB.out hbn); replace HK := Lib.hid (HK.out.to hbn); have d0 : wn.cell? ⟨g, 0, none⟩ = some (.string z.p) := HK.out.get (by simp); have d1 : wn.cell? ⟨g, 1, none⟩ = some (.string z.t) := HK.out.get (by simp); have d2 : wn.cell? ⟨g, 2, none⟩ = some (.int .i64 z.d) := HK.out.get (by simp); have hgl := HK.out.lt (b := g) (o := 2) (v := .int .i64 z.d) (by simp); clear hbn)
                      | (go_at_call 53; refine (name_r _ ?_ _ ?_ ?_).mono ?_; rotate_left 1; (first | exact HSP.out | exact HST.out); (first | exact HN1.out); rintro e wn ⟨rfl, hbn⟩; replace HB := Lib.hid (cur_step1 HB.out hbn); replace HK := Lib.hid (HK.out.to hbn); have d0 : wn.cell? ⟨g, 0, none⟩ = some (.string z.p) := HK.out.get (by simp); have d1 : wn.cell? ⟨g, 1, none⟩ = some (.string z.t) := HK.out.get (by simp); have d2 : wn.cell? ⟨g, 2, none⟩ = some (.int .i64 z.d) := HK.out.get (by simp); have hgl := HK.out.lt (b := g) (o := 2) (v := .int .i64 z.d) (by simp); clear hbn)
                      | (go_at_call 69; refine (day_r _ _ _ HD.out).mono ?_; rintro e wn ⟨rfl, rfl⟩))
                    have y0 := (HB.out.cell (p := ⟨b, off + q * 3, none⟩) hbb).trans p0
                    have y2 := (HB.out.cell (p := ⟨b, off + q * 3 + 2, none⟩) hbb).trans p2
                    have hbn2 : b < wn.heap.size := by have := HB.out.size; omega
                    go_quiet (fail)
                    go_wp2_with fail
                    go_ret2
                    exact ⟨ret_two HE.out.1 HE.out.2, below_drewN HB.out _⟩
        · have hke : k = l.length := by omega
          have HE := Lib.hid (show (-1 : Int) = r1 ∧ (0 : Int) = r2 by have h := HV.out; rw [ckT_end HW0.out hl (by rw [← hke]; exact HNO.out)] at h; injection h with h1 h2; exact ⟨h1, h2⟩)
          go_wp2
          go_ret2
          exact ⟨ret_two HE.out.1 HE.out.2, HB0.out⟩
end Go.Proofs.YtpninpohligomaaGreatDoor
