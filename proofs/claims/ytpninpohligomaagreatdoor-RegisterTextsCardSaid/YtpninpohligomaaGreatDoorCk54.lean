/-
  Chapter 54: Check of the program.
-/
import Derived.Test.YtpninpohligomaaGreatDoorCkW54
import Derived.Deep.RegionHeld3
set_option linter.unusedSimpArgs false
set_option linter.unusedVariables false
namespace Go.Proofs.YtpninpohligomaaGreatDoor
open Go.RowKit
set_option maxRecDepth 100000
set_option maxHeartbeats 1000000
theorem tErr_at {w : List Wn} {l : List Tr} {k : Nat} {z : Tr} (h : l[k]? = some z) : tErr w l k = if err1 l k z = 0 then err2 w z (bef l z.p k) else err1 l k z := by simp [tErr, h]
theorem befT_at {l : List Tr} {k : Nat} {x y : Tr} (h : l[k]? = some y) : befT l (k + 1) x = badO y x := by simp [befT, h]
theorem ckT_of {w : List Wn} {l : List Tr} {k : Nat} (hw : ckW w = 0) (hl : l.length ≤ 2000) (hno : ∀ j, j < k → tErr w l j = 0) (hk : k < l.length) (he : tErr w l k ≠ 0) : ckT w l = ((k : Int), tErr w l k) := by
  unfold ckT
  rw [if_neg (by rw [hw]; simp), if_neg (by omega), scan_some hno he hk]
  rfl
theorem ckT_end {w : List Wn} {l : List Tr} (hw : ckW w = 0) (hl : l.length ≤ 2000) (hno : ∀ j, j < l.length → tErr w l j = 0) : ckT w l = (-1, 0) := by
  unfold ckT
  rw [if_neg (by rw [hw]; simp), if_neg (by omega), scan_none hno]
  rfl
theorem ckT_win {w : List Wn} {l : List Tr} (hw : ckW w ≠ 0) : ckT w l = (-1, ckW w) := by
  unfold ckT
  rw [if_pos hw]
theorem ret_two {a b c d : Int} {k1 k2 : IntKind} (h1 : a = b) (h2 : c = d) : Ending.returned (.tuple #[.int k1 a, .int k2 c]) = .returned (.tuple #[.int k1 b, .int k2 d]) := by rw [h1, h2]
def CkR (w : World) (ws : List Wn) (l : List Tr) (i : Value) (wr : World) : Prop := ∃ k : Nat, k ≤ l.length ∧ i = .int .i64 k ∧ (∀ j, j < k → tErr ws l j = 0) ∧ Below w.heap.size w wr
theorem ck_p (WA : Option Addr) (wc : Nat) (ws : List Wn) (A : Option Addr) (c : Nat) (l : List Tr) (r1 r2 : Int) (w : World) (hwl : ws.length ≤ 32) (hl : l.length ≤ 2000) (hwr : Rd wnE 2 w w.heap.size WA ws) (hr : Rd trE 3 w w.heap.size A l)
    (hsz : ∀ (k : Nat) z, l[k]? = some z → z.p.size ≤ 9223372036854775807 ∧ z.t.size ≤ 9223372036854775807) (hv : ckT ws l = (r1, r2)) :
    Calls Tryz.prog 39 #[.slice WA ws.length wc, .slice A l.length c] w fun e w' => e = .returned (.tuple #[.int .i64 r1, .int .i64 r2]) ∧ Below w.heap.size w w' := by
  have HV := Lib.hid hv
  have HWR := Lib.hid hwr
  have HR := Lib.hid hr
  have HSZ := Lib.hid hsz
  clear hr hv hwr hsz
  by_cases hw0 : ckW ws = 0
  · have HW0 := Lib.hid hw0
    clear hw0
    go_enter Tryz.func39, Tryz.ntmps39
    go_wp2_with (go_at_call 62; refine (ckW_p _ _ _ 0 _ hwl HWR.out HW0.out).mono ?_; rintro e w1 ⟨rfl, hb1⟩)
    go_loopw [21] (CkR w ws l) (fun i _ => l.length - (intOf i).toNat)
    case atStart => exact ⟨0, by simp, rfl, by intro j h; omega, hb1⟩
    case round =>
      obtain ⟨k, hk, rfl, hno, hB⟩ := hrel
      have HNO := Lib.hid hno
      have HB0 := Lib.hid hB
      have hl6 : l.length ≤ 1000000 := by omega
      have hwl6 : ws.length ≤ 1000000 := by omega
      clear hno hB hb1
      by_cases hlt : k < l.length
      · obtain ⟨z, hz⟩ : ∃ z, l[k]? = some z := ⟨_, List.getElem?_eq_getElem hlt⟩
        obtain ⟨b, off, rfl, hbb, hcl⟩ := HR.out.at_ HB0.out hz
        obtain ⟨c0, c1, c2⟩ := tr_cells hcl
        have HZ := Lib.hid hz
        have HSP := Lib.hid (HSZ.out k z hz).1
        have HST := Lib.hid (HSZ.out k z hz).2
        have HT := Lib.hid (tErr_at (w := ws) hz)
        have hbl : b < wr.heap.size := by have := HB0.out.size; omega
        clear hcl hz
        have fin : ∀ r : Int, tErr ws l k = r → r ≠ 0 → (k : Int) = r1 ∧ r = r2 := fun r h1 h2 => by
          have h := HV.out
          rw [ckT_of HW0.out hl HNO.out hlt (by rw [h1]; exact h2), h1] at h
          injection h with h3 h4
          exact ⟨h3, h4⟩
        have nxt : tErr ws l k = 0 → ∀ j, j < k + 1 → tErr ws l j = 0 := fun h j hj => by
          by_cases e : j = k
          · rw [e]; exact h
          · exact HNO.out j (by omega)
        have FIN := Lib.hid fin
        have NXT := Lib.hid nxt
        clear fin nxt
        have et := isE_to z.t
        go_wp2_with fail
        obtain ⟨g, hg⟩ : ∃ g, g = wr.heap.size := ⟨_, rfl⟩
        have hbx := cur_new wr (.cells #[.string z.p, .string z.t, .int .i64 z.d] 51)
        have hbk := Blk.new wr 51 [.string z.p, .string z.t, .int .i64 z.d]
        generalize wr.alloc (Obj.cells #[.string z.p, .string z.t, .int .i64 z.d] 51) = w2 at hbx hbk ⊢
        rw [← hg] at hbk ⊢
        have d0 : w2.cell? ⟨g, 0, none⟩ = some (.string z.p) := hbk.cell 0
        have d1 : w2.cell? ⟨g, 1, none⟩ = some (.string z.t) := hbk.cell 1
        have d2 : w2.cell? ⟨g, 2, none⟩ = some (.int .i64 z.d) := hbk.cell 2
        have hgl := hbk.lt
        have HB := Lib.hid (cur_step1 HB0.out hbx)
        have HK := Lib.hid (show Keep w w2 [(g, 0, .string z.p), (g, 1, .string z.t), (g, 2, .int .i64 z.d)] from ⟨HB.out, fun c hc => by simp at hc; rcases hc with rfl | rfl | rfl <;> exact ⟨hgl, by assumption⟩⟩)
        have hgb : b < g := by rw [hg]; exact hbl
        clear hbx hbk hg c0 c1 c2
        cases hn1 : nameB z.p
        · have HE := Lib.hid (FIN.out 5 (by rw [HT.out]; simp [err1, hn1]) (by decide))
          have HN1 := Lib.hid hn1
          clear hn1
          go_wp2_with (first
            | (go_at_call 48; refine (name_p _ ?_ _ ?_ ?_).mono ?_; rotate_left 1; (first | exact HSP.out | exact HST.out); (first | exact HN1.out); rintro e wn ⟨rfl, hbn⟩; replace HB := Lib.hid (cur_step1 HB.out hbn); replace HK := Lib.hid (HK.out.to hbn); have d0 : wn.cell? ⟨g, 0, none⟩ = some (.string z.p) := HK.out.get (by simp); have d1 : wn.cell? ⟨g, 1, none⟩ = some (.string z.t) := HK.out.get (by simp); have d2 : wn.cell? ⟨g, 2, none⟩ = some (.int .i64 z.d) := HK.out.get (by simp); have hgl := HK.out.lt (b := g) (o := 2) (v := .int .i64 z.d) (by simp); clear hbn))
          go_ret2
          exact ⟨ret_two HE.out.1 HE.out.2, HB.out⟩
        · cases hte : isE z.t
          · cases hn2 : nameB z.t
            · rw [hte] at et
              have HE := Lib.hid (FIN.out 5 (by rw [HT.out]; simp [err1, hn1, hte, hn2]) (by decide))
              have HN1 := Lib.hid hn1
              have HN2 := Lib.hid hn2
              clear hn1 hn2 hte
              go_wp2_with (first
                | (go_at_call 48; refine (name_p _ ?_ _ ?_ ?_).mono ?_; rotate_left 1; (first | exact HSP.out | exact HST.out); (first | exact HN1.out | exact HN2.out); rintro e wn ⟨rfl, hbn⟩; replace HB := Lib.hid (cur_step1 HB.out hbn); replace HK := Lib.hid (HK.out.to hbn); have d0 : wn.cell? ⟨g, 0, none⟩ = some (.string z.p) := HK.out.get (by simp); have d1 : wn.cell? ⟨g, 1, none⟩ = some (.string z.t) := HK.out.get (by simp); have d2 : wn.cell? ⟨g, 2, none⟩ = some (.int .i64 z.d) := HK.out.get (by simp); have hgl := HK.out.lt (b := g) (o := 2) (v := .int .i64 z.d) (by simp); clear hbn))
              go_ret2
              exact ⟨ret_two HE.out.1 HE.out.2, HB.out⟩
            · rw [hte] at et
              have HC := Lib.hid (show err1 l k z = if !isDayB z.d then 2 else if befT l k z then 8 else 0 by simp [err1, hn1, hte, hn2])
              have HN1 := Lib.hid hn1
              have HN2 := Lib.hid hn2
              have HTE := Lib.hid hte
              clear hn1 hn2 hte
              cases hd : isDayB z.d
              · have HE := Lib.hid (FIN.out 2 (by rw [HT.out, HC.out, hd]; rfl) (by decide))
                have HD := Lib.hid hd
                clear hd
                go_wp2_with (first
                  | (go_at_call 48; refine (name_p _ ?_ _ ?_ ?_).mono ?_; rotate_left 1; (first | exact HSP.out | exact HST.out); (first | exact HN1.out | exact HN2.out); rintro e wn ⟨rfl, hbn⟩; replace HB := Lib.hid (cur_step1 HB.out hbn); replace HK := Lib.hid (HK.out.to hbn); have d0 : wn.cell? ⟨g, 0, none⟩ = some (.string z.p) := HK.out.get (by simp); have d1 : wn.cell? ⟨g, 1, none⟩ = some (.string z.t) := HK.out.get (by simp); have d2 : wn.cell? ⟨g, 2, none⟩ = some (.int .i64 z.d) := HK.out.get (by simp); have hgl := HK.out.lt (b := g) (o := 2) (v := .int .i64 z.d) (by simp); clear hbn)
                  | (go_at_call 63; refine (isDay_p _ _ _ HD.out).mono ?_; rintro e wn ⟨rfl, rfl⟩))
                go_ret2
                exact ⟨ret_two HE.out.1 HE.out.2, HB.out⟩
              · have HD := Lib.hid hd
                obtain ⟨u, hu⟩ : ∃ u, bef l z.p k = u := ⟨_, rfl⟩
                obtain ⟨o, ho⟩ : ∃ o, openW ws z.d = o := ⟨_, rfl⟩
                have HU := Lib.hid hu
                have HO := Lib.hid ho
                clear hu ho
                have es := seq_to z.t u
                have eu := isE_to u
                rcases Nat.eq_zero_or_pos k with hk0 | hk0
                · have hb0 : befT l k z = false := by rw [hk0]; rfl
                  have hkd : decide ((0 : Int) < (k : Int)) = false := decide_eq_false (by omega)
                  have hkd2 : decide (0 < k) = false := decide_eq_false (by omega)
                  have HK0 := Lib.hid hk0
                  clear hk0
                  have HT2 := Lib.hid (show tErr ws l k = err2 ws z u by rw [HT.out, HC.out, hd, hb0]; simp [HU.out])
                  clear hd
                  cases hs : seq z.t u
                  · rw [hs] at es
                    cases hue : isE u
                    · rw [hue] at eu
                      cases hoo : o
                      · have HE := Lib.hid (FIN.out 15 (by rw [HT2.out]; simp [err2, hs, HTE.out, hue, HO.out, hoo]) (by decide))
                        subst hoo
                        clear hs hue
                        go_wp2_with (first
                          | (go_at_call 48; refine (name_p _ ?_ _ ?_ ?_).mono ?_; rotate_left 1; (first | exact HSP.out | exact HST.out); (first | exact HN1.out | exact HN2.out); rintro e wn ⟨rfl, hbn⟩; replace HB := Lib.hid (cur_step1 HB.out hbn); replace HK := Lib.hid (HK.out.to hbn); have d0 : wn.cell? ⟨g, 0, none⟩ = some (.string z.p) := HK.out.get (by simp); have d1 : wn.cell? ⟨g, 1, none⟩ = some (.string z.t) := HK.out.get (by simp); have d2 : wn.cell? ⟨g, 2, none⟩ = some (.int .i64 z.d) := HK.out.get (by simp); have hgl := HK.out.lt (b := g) (o := 2) (v := .int .i64 z.d) (by simp); clear hbn)
                          | (go_at_call 63; refine (isDay_p _ _ _ HD.out).mono ?_; rintro e wn ⟨rfl, rfl⟩))
                        go_quiet (fail)
                        go_wp2_with fail
                        refine (before_p _ _ _ k z u _ hl6 (HR.out.to (below_drewN HB.out _)) HZ.out HU.out).mono ?_
                        rintro e wn ⟨rfl, hbn⟩
                        replace HB := Lib.hid (cur_step1 (below_drewN HB.out _) hbn)
                        replace HK := Lib.hid (Keep.to ⟨below_drewN HK.out.1 _, HK.out.2⟩ hbn)
                        have d0 : wn.cell? ⟨g, 0, none⟩ = some (.string z.p) := HK.out.get (by simp)
                        have d1 : wn.cell? ⟨g, 1, none⟩ = some (.string z.t) := HK.out.get (by simp)
                        have d2 : wn.cell? ⟨g, 2, none⟩ = some (.int .i64 z.d) := HK.out.get (by simp)
                        have hgl := HK.out.lt (b := g) (o := 2) (v := .int .i64 z.d) (by simp)
                        clear hbn
                        go_wp2_with (first
                          | (go_at_call 66; refine (cont_w _ _ _ z.d g _ _ hwl6 (HWR.out.to HB.out) d2 hgl HO.out).mono ?_; rintro e wn ⟨rfl, hbn⟩; replace HB := Lib.hid (cur_step1 HB.out hbn); replace HK := Lib.hid (HK.out.to hbn); have d0 : wn.cell? ⟨g, 0, none⟩ = some (.string z.p) := HK.out.get (by simp); have d1 : wn.cell? ⟨g, 1, none⟩ = some (.string z.t) := HK.out.get (by simp); have d2 : wn.cell? ⟨g, 2, none⟩ = some (.int .i64 z.d) := HK.out.get (by simp); have hgl := HK.out.lt (b := g) (o := 2) (v := .int .i64 z.d) (by simp); clear hbn))
                        go_ret2
                        exact ⟨ret_two HE.out.1 HE.out.2, HB.out⟩
                      · have HE := Lib.hid (show tErr ws l k = 0 by rw [HT2.out]; simp [err2, hs, HTE.out, hue, HO.out, hoo])
                        subst hoo
                        clear hs hue
                        go_wp2_with (first
                          | (go_at_call 48; refine (name_p _ ?_ _ ?_ ?_).mono ?_; rotate_left 1; (first | exact HSP.out | exact HST.out); (first | exact HN1.out | exact HN2.out); rintro e wn ⟨rfl, hbn⟩; replace HB := Lib.hid (cur_step1 HB.out hbn); replace HK := Lib.hid (HK.out.to hbn); have d0 : wn.cell? ⟨g, 0, none⟩ = some (.string z.p) := HK.out.get (by simp); have d1 : wn.cell? ⟨g, 1, none⟩ = some (.string z.t) := HK.out.get (by simp); have d2 : wn.cell? ⟨g, 2, none⟩ = some (.int .i64 z.d) := HK.out.get (by simp); have hgl := HK.out.lt (b := g) (o := 2) (v := .int .i64 z.d) (by simp); clear hbn)
                          | (go_at_call 63; refine (isDay_p _ _ _ HD.out).mono ?_; rintro e wn ⟨rfl, rfl⟩))
                        go_quiet (fail)
                        go_wp2_with fail
                        refine (before_p _ _ _ k z u _ hl6 (HR.out.to (below_drewN HB.out _)) HZ.out HU.out).mono ?_
                        rintro e wn ⟨rfl, hbn⟩
                        replace HB := Lib.hid (cur_step1 (below_drewN HB.out _) hbn)
                        replace HK := Lib.hid (Keep.to ⟨below_drewN HK.out.1 _, HK.out.2⟩ hbn)
                        have d0 : wn.cell? ⟨g, 0, none⟩ = some (.string z.p) := HK.out.get (by simp)
                        have d1 : wn.cell? ⟨g, 1, none⟩ = some (.string z.t) := HK.out.get (by simp)
                        have d2 : wn.cell? ⟨g, 2, none⟩ = some (.int .i64 z.d) := HK.out.get (by simp)
                        have hgl := HK.out.lt (b := g) (o := 2) (v := .int .i64 z.d) (by simp)
                        clear hbn
                        go_wp2_with (first
                          | (go_at_call 66; refine (cont_w _ _ _ z.d g _ _ hwl6 (HWR.out.to HB.out) d2 hgl HO.out).mono ?_; rintro e wn ⟨rfl, hbn⟩; replace HB := Lib.hid (cur_step1 HB.out hbn); replace HK := Lib.hid (HK.out.to hbn); have d0 : wn.cell? ⟨g, 0, none⟩ = some (.string z.p) := HK.out.get (by simp); have d1 : wn.cell? ⟨g, 1, none⟩ = some (.string z.t) := HK.out.get (by simp); have d2 : wn.cell? ⟨g, 2, none⟩ = some (.int .i64 z.d) := HK.out.get (by simp); have hgl := HK.out.lt (b := g) (o := 2) (v := .int .i64 z.d) (by simp); clear hbn))
                        go_roundw
                        case rel => exact ⟨k + 1, hlt, by simp, NXT.out HE.out, HB.out⟩
                        case measure => simp [intOf]; omega
                    · rw [hue] at eu
                      have HE := Lib.hid (show tErr ws l k = 0 by rw [HT2.out]; simp [err2, hs, HTE.out, hue])
                      clear hs hue
                      go_wp2_with (first
                        | (go_at_call 48; refine (name_p _ ?_ _ ?_ ?_).mono ?_; rotate_left 1; (first | exact HSP.out | exact HST.out); (first | exact HN1.out | exact HN2.out); rintro e wn ⟨rfl, hbn⟩; replace HB := Lib.hid (cur_step1 HB.out hbn); replace HK := Lib.hid (HK.out.to hbn); have d0 : wn.cell? ⟨g, 0, none⟩ = some (.string z.p) := HK.out.get (by simp); have d1 : wn.cell? ⟨g, 1, none⟩ = some (.string z.t) := HK.out.get (by simp); have d2 : wn.cell? ⟨g, 2, none⟩ = some (.int .i64 z.d) := HK.out.get (by simp); have hgl := HK.out.lt (b := g) (o := 2) (v := .int .i64 z.d) (by simp); clear hbn)
                        | (go_at_call 63; refine (isDay_p _ _ _ HD.out).mono ?_; rintro e wn ⟨rfl, rfl⟩))
                      go_quiet (fail)
                      go_wp2_with fail
                      refine (before_p _ _ _ k z u _ hl6 (HR.out.to (below_drewN HB.out _)) HZ.out HU.out).mono ?_
                      rintro e wn ⟨rfl, hbn⟩
                      replace HB := Lib.hid (cur_step1 (below_drewN HB.out _) hbn)
                      replace HK := Lib.hid (Keep.to ⟨below_drewN HK.out.1 _, HK.out.2⟩ hbn)
                      have d0 : wn.cell? ⟨g, 0, none⟩ = some (.string z.p) := HK.out.get (by simp)
                      have d1 : wn.cell? ⟨g, 1, none⟩ = some (.string z.t) := HK.out.get (by simp)
                      have d2 : wn.cell? ⟨g, 2, none⟩ = some (.int .i64 z.d) := HK.out.get (by simp)
                      have hgl := HK.out.lt (b := g) (o := 2) (v := .int .i64 z.d) (by simp)
                      clear hbn
                      go_wp2_with (first
                        | (go_at_call 66; refine (cont_w _ _ _ z.d g _ _ hwl6 (HWR.out.to HB.out) d2 hgl HO.out).mono ?_; rintro e wn ⟨rfl, hbn⟩; replace HB := Lib.hid (cur_step1 HB.out hbn); replace HK := Lib.hid (HK.out.to hbn); have d0 : wn.cell? ⟨g, 0, none⟩ = some (.string z.p) := HK.out.get (by simp); have d1 : wn.cell? ⟨g, 1, none⟩ = some (.string z.t) := HK.out.get (by simp); have d2 : wn.cell? ⟨g, 2, none⟩ = some (.int .i64 z.d) := HK.out.get (by simp); have hgl := HK.out.lt (b := g) (o := 2) (v := .int .i64 z.d) (by simp); clear hbn))
                      go_roundw
                      case rel => exact ⟨k + 1, hlt, by simp, NXT.out HE.out, HB.out⟩
                      case measure => simp [intOf]; omega
                  · rw [hs] at es
                    have HE := Lib.hid (FIN.out 1 (by rw [HT2.out]; simp [err2, hs]) (by decide))
                    clear hs
                    go_wp2_with (first
                      | (go_at_call 48; refine (name_p _ ?_ _ ?_ ?_).mono ?_; rotate_left 1; (first | exact HSP.out | exact HST.out); (first | exact HN1.out | exact HN2.out); rintro e wn ⟨rfl, hbn⟩; replace HB := Lib.hid (cur_step1 HB.out hbn); replace HK := Lib.hid (HK.out.to hbn); have d0 : wn.cell? ⟨g, 0, none⟩ = some (.string z.p) := HK.out.get (by simp); have d1 : wn.cell? ⟨g, 1, none⟩ = some (.string z.t) := HK.out.get (by simp); have d2 : wn.cell? ⟨g, 2, none⟩ = some (.int .i64 z.d) := HK.out.get (by simp); have hgl := HK.out.lt (b := g) (o := 2) (v := .int .i64 z.d) (by simp); clear hbn)
                      | (go_at_call 63; refine (isDay_p _ _ _ HD.out).mono ?_; rintro e wn ⟨rfl, rfl⟩))
                    go_quiet (fail)
                    go_wp2_with fail
                    refine (before_p _ _ _ k z u _ hl6 (HR.out.to (below_drewN HB.out _)) HZ.out HU.out).mono ?_
                    rintro e wn ⟨rfl, hbn⟩
                    replace HB := Lib.hid (cur_step1 (below_drewN HB.out _) hbn)
                    replace HK := Lib.hid (Keep.to ⟨below_drewN HK.out.1 _, HK.out.2⟩ hbn)
                    have d0 : wn.cell? ⟨g, 0, none⟩ = some (.string z.p) := HK.out.get (by simp)
                    have d1 : wn.cell? ⟨g, 1, none⟩ = some (.string z.t) := HK.out.get (by simp)
                    have d2 : wn.cell? ⟨g, 2, none⟩ = some (.int .i64 z.d) := HK.out.get (by simp)
                    have hgl := HK.out.lt (b := g) (o := 2) (v := .int .i64 z.d) (by simp)
                    clear hbn
                    go_wp2_with (first
                      | (go_at_call 66; refine (cont_w _ _ _ z.d g _ _ hwl6 (HWR.out.to HB.out) d2 hgl HO.out).mono ?_; rintro e wn ⟨rfl, hbn⟩; replace HB := Lib.hid (cur_step1 HB.out hbn); replace HK := Lib.hid (HK.out.to hbn); have d0 : wn.cell? ⟨g, 0, none⟩ = some (.string z.p) := HK.out.get (by simp); have d1 : wn.cell? ⟨g, 1, none⟩ = some (.string z.t) := HK.out.get (by simp); have d2 : wn.cell? ⟨g, 2, none⟩ = some (.int .i64 z.d) := HK.out.get (by simp); have hgl := HK.out.lt (b := g) (o := 2) (v := .int .i64 z.d) (by simp); clear hbn))
                    go_ret2
                    exact ⟨ret_two HE.out.1 HE.out.2, HB.out⟩
                · obtain ⟨q, hq⟩ : ∃ q, k = q + 1 := ⟨k - 1, by omega⟩
                  have hi : (k : Int) - 1 = (q : Int) := by omega
                  have hql : q < l.length := by omega
                  have hkd : decide ((0 : Int) < (k : Int)) = true := decide_eq_true (by omega)
                  have hqd : decide ((q : Int) < (l.length : Int)) = true := decide_eq_true (by omega)
                  have hqb : (0 : Int) ≤ (q : Int) := by omega
                  have hqb2 : (q : Int) < (l.length : Int) := by omega
                  have hwr : IntKind.i64.wrap ((k : Int) - 1) = (q : Int) := by (rw [hi]; simp [IntKind.wrap, IntKind.bits, IntKind.signed]; omega)
                  obtain ⟨y, hy⟩ : ∃ y, l[q]? = some y := ⟨_, List.getElem?_eq_getElem hql⟩
                  obtain ⟨r, hr0⟩ : ∃ r, (if cmpI y.d z.d = 0 then cmpS y.p z.p else cmpI y.d z.d) = r := ⟨_, rfl⟩
                  have HRR := Lib.hid hr0
                  have hob := ord_prog y z
                  rw [hr0] at hob
                  have HBT := Lib.hid (show befT l k z = badO y z by rw [hq, befT_at hy])
                  have HY := Lib.hid hy
                  obtain ⟨b5, off5, h5, _, hcl5⟩ := HR.out.at_ (Below.refl _ _) hy
                  injection h5 with h5
                  injection h5 with h6 h7 _
                  subst h6 h7
                  obtain ⟨p0, p1, p2⟩ := tr_cells hcl5
                  clear hcl5
                  have HQ := Lib.hid hq
                  clear hq hy hr0
                  cases hbo : badO y z
                  · rw [hbo] at hob
                    have hb0 : befT l k z = false := by rw [HBT.out, hbo]
                    clear hbo
                    have HT2 := Lib.hid (show tErr ws l k = err2 ws z u by rw [HT.out, HC.out, hd, hb0]; simp [HU.out])
                    clear hd
                    cases hs : seq z.t u
                    · rw [hs] at es
                      cases hue : isE u
                      · rw [hue] at eu
                        cases hoo : o
                        · have HE := Lib.hid (FIN.out 15 (by rw [HT2.out]; simp [err2, hs, HTE.out, hue, HO.out, hoo]) (by decide))
                          subst hoo
                          clear hs hue
                          go_wp2_with (first
                            | (go_at_call 48; refine (name_p _ ?_ _ ?_ ?_).mono ?_; rotate_left 1; (first | exact HSP.out | exact HST.out); (first | exact HN1.out | exact HN2.out); rintro e wn ⟨rfl, hbn⟩; replace HB := Lib.hid (cur_step1 HB.out hbn); replace HK := Lib.hid (HK.out.to hbn); have d0 : wn.cell? ⟨g, 0, none⟩ = some (.string z.p) := HK.out.get (by simp); have d1 : wn.cell? ⟨g, 1, none⟩ = some (.string z.t) := HK.out.get (by simp); have d2 : wn.cell? ⟨g, 2, none⟩ = some (.int .i64 z.d) := HK.out.get (by simp); have hgl := HK.out.lt (b := g) (o := 2) (v := .int .i64 z.d) (by simp); clear hbn)
                            | (go_at_call 63; refine (isDay_p _ _ _ HD.out).mono ?_; rintro e wn ⟨rfl, rfl⟩))
                          obtain ⟨CS, hCS⟩ : ∃ CS : List (Nat × Nat × Value), CS = [(g, 0, .string z.p), (g, 1, .string z.t), (g, 2, .int .i64 z.d)] := ⟨_, rfl⟩
                          have K3 : Keep w wn CS := by rw [hCS]; exact HK.out
                          have k0 : ∀ s : Wd w CS, s.w.cell? ⟨g, 0, none⟩ = some (.string z.p) := fun s => s.h.get (by simp [hCS])
                          have k1 : ∀ s : Wd w CS, s.w.cell? ⟨g, 1, none⟩ = some (.string z.t) := fun s => s.h.get (by simp [hCS])
                          have k2 : ∀ s : Wd w CS, s.w.cell? ⟨g, 2, none⟩ = some (.int .i64 z.d) := fun s => s.h.get (by simp [hCS])
                          have y0 : ∀ s : Wd w CS, s.w.cell? ⟨b, off + q * 3, none⟩ = some (.string y.p) := fun s => (s.h.1.cell (p := ⟨b, off + q * 3, none⟩) hbb).trans p0
                          have y1 : ∀ s : Wd w CS, s.w.cell? ⟨b, off + q * 3 + 1, none⟩ = some (.string y.t) := fun s => (s.h.1.cell (p := ⟨b, off + q * 3 + 1, none⟩) hbb).trans p1
                          have y2 : ∀ s : Wd w CS, s.w.cell? ⟨b, off + q * 3 + 2, none⟩ = some (.int .i64 y.d) := fun s => (s.h.1.cell (p := ⟨b, off + q * 3 + 2, none⟩) hbb).trans p2
                          have hex : ∀ s : Wd w CS, ∃ s' : Wd w CS, s.w = s'.w := fun s => ⟨s, rfl⟩
                          haveI hne : Nonempty (Wd w CS) := ⟨⟨_, K3⟩⟩
                          have HCS := Lib.hid hCS
                          clear hCS
                          refine wp_region_wd w CS (by kernel_rfl) (by kernel_rfl) K3.drew ?_
                          repeat (go_big_quiet_step ((go_at_call 64; refine (order_f y z r _ HRR.out).mono ?_; rintro e w4 ⟨rfl, hb4⟩; exact ⟨rfl, ⟨w4, (Wd.h _).to hb4⟩, rfl⟩)))
                          refine wpQuiet_nil ?_
                          rintro wm ⟨s4, hs4⟩
                          have K4 : Keep w wm CS := by rw [hs4]; exact s4.h
                          clear hs4 s4
                          rw [HCS.out] at K4
                          clear k0 k1 k2 y0 y1 y2 hex hne K3 HCS
                          (try simp only [])
                          replace HK := Lib.hid K4
                          replace HB := Lib.hid K4.1
                          clear K4
                          go_wp2_with (first
                            | (go_at_call 65; refine (before_p _ _ _ k z u _ hl6 (HR.out.to HB.out) HZ.out HU.out).mono ?_; rintro e wn ⟨rfl, hbn⟩; replace HB := Lib.hid (cur_step1 HB.out hbn); replace HK := Lib.hid (HK.out.to hbn); have d0 : wn.cell? ⟨g, 0, none⟩ = some (.string z.p) := HK.out.get (by simp); have d1 : wn.cell? ⟨g, 1, none⟩ = some (.string z.t) := HK.out.get (by simp); have d2 : wn.cell? ⟨g, 2, none⟩ = some (.int .i64 z.d) := HK.out.get (by simp); have hgl := HK.out.lt (b := g) (o := 2) (v := .int .i64 z.d) (by simp); clear hbn)
                            | (go_at_call 66; refine (cont_w _ _ _ z.d g _ _ hwl6 (HWR.out.to HB.out) d2 hgl HO.out).mono ?_; rintro e wn ⟨rfl, hbn⟩; replace HB := Lib.hid (cur_step1 HB.out hbn); replace HK := Lib.hid (HK.out.to hbn); have d0 : wn.cell? ⟨g, 0, none⟩ = some (.string z.p) := HK.out.get (by simp); have d1 : wn.cell? ⟨g, 1, none⟩ = some (.string z.t) := HK.out.get (by simp); have d2 : wn.cell? ⟨g, 2, none⟩ = some (.int .i64 z.d) := HK.out.get (by simp); have hgl := HK.out.lt (b := g) (o := 2) (v := .int .i64 z.d) (by simp); clear hbn))
                          go_ret2
                          exact ⟨ret_two HE.out.1 HE.out.2, HB.out⟩
                        · have HE := Lib.hid (show tErr ws l k = 0 by rw [HT2.out]; simp [err2, hs, HTE.out, hue, HO.out, hoo])
                          subst hoo
                          clear hs hue
                          go_wp2_with (first
                            | (go_at_call 48; refine (name_p _ ?_ _ ?_ ?_).mono ?_; rotate_left 1; (first | exact HSP.out | exact HST.out); (first | exact HN1.out | exact HN2.out); rintro e wn ⟨rfl, hbn⟩; replace HB := Lib.hid (cur_step1 HB.out hbn); replace HK := Lib.hid (HK.out.to hbn); have d0 : wn.cell? ⟨g, 0, none⟩ = some (.string z.p) := HK.out.get (by simp); have d1 : wn.cell? ⟨g, 1, none⟩ = some (.string z.t) := HK.out.get (by simp); have d2 : wn.cell? ⟨g, 2, none⟩ = some (.int .i64 z.d) := HK.out.get (by simp); have hgl := HK.out.lt (b := g) (o := 2) (v := .int .i64 z.d) (by simp); clear hbn)
                            | (go_at_call 63; refine (isDay_p _ _ _ HD.out).mono ?_; rintro e wn ⟨rfl, rfl⟩))
                          obtain ⟨CS, hCS⟩ : ∃ CS : List (Nat × Nat × Value), CS = [(g, 0, .string z.p), (g, 1, .string z.t), (g, 2, .int .i64 z.d)] := ⟨_, rfl⟩
                          have K3 : Keep w wn CS := by rw [hCS]; exact HK.out
                          have k0 : ∀ s : Wd w CS, s.w.cell? ⟨g, 0, none⟩ = some (.string z.p) := fun s => s.h.get (by simp [hCS])
                          have k1 : ∀ s : Wd w CS, s.w.cell? ⟨g, 1, none⟩ = some (.string z.t) := fun s => s.h.get (by simp [hCS])
                          have k2 : ∀ s : Wd w CS, s.w.cell? ⟨g, 2, none⟩ = some (.int .i64 z.d) := fun s => s.h.get (by simp [hCS])
                          have y0 : ∀ s : Wd w CS, s.w.cell? ⟨b, off + q * 3, none⟩ = some (.string y.p) := fun s => (s.h.1.cell (p := ⟨b, off + q * 3, none⟩) hbb).trans p0
                          have y1 : ∀ s : Wd w CS, s.w.cell? ⟨b, off + q * 3 + 1, none⟩ = some (.string y.t) := fun s => (s.h.1.cell (p := ⟨b, off + q * 3 + 1, none⟩) hbb).trans p1
                          have y2 : ∀ s : Wd w CS, s.w.cell? ⟨b, off + q * 3 + 2, none⟩ = some (.int .i64 y.d) := fun s => (s.h.1.cell (p := ⟨b, off + q * 3 + 2, none⟩) hbb).trans p2
                          have hex : ∀ s : Wd w CS, ∃ s' : Wd w CS, s.w = s'.w := fun s => ⟨s, rfl⟩
                          haveI hne : Nonempty (Wd w CS) := ⟨⟨_, K3⟩⟩
                          have HCS := Lib.hid hCS
                          clear hCS
                          refine wp_region_wd w CS (by kernel_rfl) (by kernel_rfl) K3.drew ?_
                          repeat (go_big_quiet_step ((go_at_call 64; refine (order_f y z r _ HRR.out).mono ?_; rintro e w4 ⟨rfl, hb4⟩; exact ⟨rfl, ⟨w4, (Wd.h _).to hb4⟩, rfl⟩)))
                          refine wpQuiet_nil ?_
                          rintro wm ⟨s4, hs4⟩
                          have K4 : Keep w wm CS := by rw [hs4]; exact s4.h
                          clear hs4 s4
                          rw [HCS.out] at K4
                          clear k0 k1 k2 y0 y1 y2 hex hne K3 HCS
                          (try simp only [])
                          replace HK := Lib.hid K4
                          replace HB := Lib.hid K4.1
                          clear K4
                          go_wp2_with (first
                            | (go_at_call 65; refine (before_p _ _ _ k z u _ hl6 (HR.out.to HB.out) HZ.out HU.out).mono ?_; rintro e wn ⟨rfl, hbn⟩; replace HB := Lib.hid (cur_step1 HB.out hbn); replace HK := Lib.hid (HK.out.to hbn); have d0 : wn.cell? ⟨g, 0, none⟩ = some (.string z.p) := HK.out.get (by simp); have d1 : wn.cell? ⟨g, 1, none⟩ = some (.string z.t) := HK.out.get (by simp); have d2 : wn.cell? ⟨g, 2, none⟩ = some (.int .i64 z.d) := HK.out.get (by simp); have hgl := HK.out.lt (b := g) (o := 2) (v := .int .i64 z.d) (by simp); clear hbn)
                            | (go_at_call 66; refine (cont_w _ _ _ z.d g _ _ hwl6 (HWR.out.to HB.out) d2 hgl HO.out).mono ?_; rintro e wn ⟨rfl, hbn⟩; replace HB := Lib.hid (cur_step1 HB.out hbn); replace HK := Lib.hid (HK.out.to hbn); have d0 : wn.cell? ⟨g, 0, none⟩ = some (.string z.p) := HK.out.get (by simp); have d1 : wn.cell? ⟨g, 1, none⟩ = some (.string z.t) := HK.out.get (by simp); have d2 : wn.cell? ⟨g, 2, none⟩ = some (.int .i64 z.d) := HK.out.get (by simp); have hgl := HK.out.lt (b := g) (o := 2) (v := .int .i64 z.d) (by simp); clear hbn))
                          go_roundw
                          case rel => exact ⟨k + 1, hlt, by simp, NXT.out HE.out, HB.out⟩
                          case measure => simp [intOf]; omega
                      · rw [hue] at eu
                        have HE := Lib.hid (show tErr ws l k = 0 by rw [HT2.out]; simp [err2, hs, HTE.out, hue])
                        clear hs hue
                        go_wp2_with (first
                          | (go_at_call 48; refine (name_p _ ?_ _ ?_ ?_).mono ?_; rotate_left 1; (first | exact HSP.out | exact HST.out); (first | exact HN1.out | exact HN2.out); rintro e wn ⟨rfl, hbn⟩; replace HB := Lib.hid (cur_step1 HB.out hbn); replace HK := Lib.hid (HK.out.to hbn); have d0 : wn.cell? ⟨g, 0, none⟩ = some (.string z.p) := HK.out.get (by simp); have d1 : wn.cell? ⟨g, 1, none⟩ = some (.string z.t) := HK.out.get (by simp); have d2 : wn.cell? ⟨g, 2, none⟩ = some (.int .i64 z.d) := HK.out.get (by simp); have hgl := HK.out.lt (b := g) (o := 2) (v := .int .i64 z.d) (by simp); clear hbn)
                          | (go_at_call 63; refine (isDay_p _ _ _ HD.out).mono ?_; rintro e wn ⟨rfl, rfl⟩))
                        obtain ⟨CS, hCS⟩ : ∃ CS : List (Nat × Nat × Value), CS = [(g, 0, .string z.p), (g, 1, .string z.t), (g, 2, .int .i64 z.d)] := ⟨_, rfl⟩
                        have K3 : Keep w wn CS := by rw [hCS]; exact HK.out
                        have k0 : ∀ s : Wd w CS, s.w.cell? ⟨g, 0, none⟩ = some (.string z.p) := fun s => s.h.get (by simp [hCS])
                        have k1 : ∀ s : Wd w CS, s.w.cell? ⟨g, 1, none⟩ = some (.string z.t) := fun s => s.h.get (by simp [hCS])
                        have k2 : ∀ s : Wd w CS, s.w.cell? ⟨g, 2, none⟩ = some (.int .i64 z.d) := fun s => s.h.get (by simp [hCS])
                        have y0 : ∀ s : Wd w CS, s.w.cell? ⟨b, off + q * 3, none⟩ = some (.string y.p) := fun s => (s.h.1.cell (p := ⟨b, off + q * 3, none⟩) hbb).trans p0
                        have y1 : ∀ s : Wd w CS, s.w.cell? ⟨b, off + q * 3 + 1, none⟩ = some (.string y.t) := fun s => (s.h.1.cell (p := ⟨b, off + q * 3 + 1, none⟩) hbb).trans p1
                        have y2 : ∀ s : Wd w CS, s.w.cell? ⟨b, off + q * 3 + 2, none⟩ = some (.int .i64 y.d) := fun s => (s.h.1.cell (p := ⟨b, off + q * 3 + 2, none⟩) hbb).trans p2
                        have hex : ∀ s : Wd w CS, ∃ s' : Wd w CS, s.w = s'.w := fun s => ⟨s, rfl⟩
                        haveI hne : Nonempty (Wd w CS) := ⟨⟨_, K3⟩⟩
                        have HCS := Lib.hid hCS
                        clear hCS
                        refine wp_region_wd w CS (by kernel_rfl) (by kernel_rfl) K3.drew ?_
                        repeat (go_big_quiet_step ((go_at_call 64; refine (order_f y z r _ HRR.out).mono ?_; rintro e w4 ⟨rfl, hb4⟩; exact ⟨rfl, ⟨w4, (Wd.h _).to hb4⟩, rfl⟩)))
                        refine wpQuiet_nil ?_
                        rintro wm ⟨s4, hs4⟩
                        have K4 : Keep w wm CS := by rw [hs4]; exact s4.h
                        clear hs4 s4
                        rw [HCS.out] at K4
                        clear k0 k1 k2 y0 y1 y2 hex hne K3 HCS
                        (try simp only [])
                        replace HK := Lib.hid K4
                        replace HB := Lib.hid K4.1
                        clear K4
                        go_wp2_with (first
                          | (go_at_call 65; refine (before_p _ _ _ k z u _ hl6 (HR.out.to HB.out) HZ.out HU.out).mono ?_; rintro e wn ⟨rfl, hbn⟩; replace HB := Lib.hid (cur_step1 HB.out hbn); replace HK := Lib.hid (HK.out.to hbn); have d0 : wn.cell? ⟨g, 0, none⟩ = some (.string z.p) := HK.out.get (by simp); have d1 : wn.cell? ⟨g, 1, none⟩ = some (.string z.t) := HK.out.get (by simp); have d2 : wn.cell? ⟨g, 2, none⟩ = some (.int .i64 z.d) := HK.out.get (by simp); have hgl := HK.out.lt (b := g) (o := 2) (v := .int .i64 z.d) (by simp); clear hbn)
                          | (go_at_call 66; refine (cont_w _ _ _ z.d g _ _ hwl6 (HWR.out.to HB.out) d2 hgl HO.out).mono ?_; rintro e wn ⟨rfl, hbn⟩; replace HB := Lib.hid (cur_step1 HB.out hbn); replace HK := Lib.hid (HK.out.to hbn); have d0 : wn.cell? ⟨g, 0, none⟩ = some (.string z.p) := HK.out.get (by simp); have d1 : wn.cell? ⟨g, 1, none⟩ = some (.string z.t) := HK.out.get (by simp); have d2 : wn.cell? ⟨g, 2, none⟩ = some (.int .i64 z.d) := HK.out.get (by simp); have hgl := HK.out.lt (b := g) (o := 2) (v := .int .i64 z.d) (by simp); clear hbn))
                        go_roundw
                        case rel => exact ⟨k + 1, hlt, by simp, NXT.out HE.out, HB.out⟩
                        case measure => simp [intOf]; omega
                    · rw [hs] at es
                      have HE := Lib.hid (FIN.out 1 (by rw [HT2.out]; simp [err2, hs]) (by decide))
                      clear hs
                      go_wp2_with (first
                        | (go_at_call 48; refine (name_p _ ?_ _ ?_ ?_).mono ?_; rotate_left 1; (first | exact HSP.out | exact HST.out); (first | exact HN1.out | exact HN2.out); rintro e wn ⟨rfl, hbn⟩; replace HB := Lib.hid (cur_step1 HB.out hbn); replace HK := Lib.hid (HK.out.to hbn); have d0 : wn.cell? ⟨g, 0, none⟩ = some (.string z.p) := HK.out.get (by simp); have d1 : wn.cell? ⟨g, 1, none⟩ = some (.string z.t) := HK.out.get (by simp); have d2 : wn.cell? ⟨g, 2, none⟩ = some (.int .i64 z.d) := HK.out.get (by simp); have hgl := HK.out.lt (b := g) (o := 2) (v := .int .i64 z.d) (by simp); clear hbn)
                        | (go_at_call 63; refine (isDay_p _ _ _ HD.out).mono ?_; rintro e wn ⟨rfl, rfl⟩))
                      obtain ⟨CS, hCS⟩ : ∃ CS : List (Nat × Nat × Value), CS = [(g, 0, .string z.p), (g, 1, .string z.t), (g, 2, .int .i64 z.d)] := ⟨_, rfl⟩
                      have K3 : Keep w wn CS := by rw [hCS]; exact HK.out
                      have k0 : ∀ s : Wd w CS, s.w.cell? ⟨g, 0, none⟩ = some (.string z.p) := fun s => s.h.get (by simp [hCS])
                      have k1 : ∀ s : Wd w CS, s.w.cell? ⟨g, 1, none⟩ = some (.string z.t) := fun s => s.h.get (by simp [hCS])
                      have k2 : ∀ s : Wd w CS, s.w.cell? ⟨g, 2, none⟩ = some (.int .i64 z.d) := fun s => s.h.get (by simp [hCS])
                      have y0 : ∀ s : Wd w CS, s.w.cell? ⟨b, off + q * 3, none⟩ = some (.string y.p) := fun s => (s.h.1.cell (p := ⟨b, off + q * 3, none⟩) hbb).trans p0
                      have y1 : ∀ s : Wd w CS, s.w.cell? ⟨b, off + q * 3 + 1, none⟩ = some (.string y.t) := fun s => (s.h.1.cell (p := ⟨b, off + q * 3 + 1, none⟩) hbb).trans p1
                      have y2 : ∀ s : Wd w CS, s.w.cell? ⟨b, off + q * 3 + 2, none⟩ = some (.int .i64 y.d) := fun s => (s.h.1.cell (p := ⟨b, off + q * 3 + 2, none⟩) hbb).trans p2
                      have hex : ∀ s : Wd w CS, ∃ s' : Wd w CS, s.w = s'.w := fun s => ⟨s, rfl⟩
                      haveI hne : Nonempty (Wd w CS) := ⟨⟨_, K3⟩⟩
                      have HCS := Lib.hid hCS
                      clear hCS
                      refine wp_region_wd w CS (by kernel_rfl) (by kernel_rfl) K3.drew ?_
                      repeat (go_big_quiet_step ((go_at_call 64; refine (order_f y z r _ HRR.out).mono ?_; rintro e w4 ⟨rfl, hb4⟩; exact ⟨rfl, ⟨w4, (Wd.h _).to hb4⟩, rfl⟩)))
                      refine wpQuiet_nil ?_
                      rintro wm ⟨s4, hs4⟩
                      have K4 : Keep w wm CS := by rw [hs4]; exact s4.h
                      clear hs4 s4
                      rw [HCS.out] at K4
                      clear k0 k1 k2 y0 y1 y2 hex hne K3 HCS
                      (try simp only [])
                      replace HK := Lib.hid K4
                      replace HB := Lib.hid K4.1
                      clear K4
                      go_wp2_with (first
                        | (go_at_call 65; refine (before_p _ _ _ k z u _ hl6 (HR.out.to HB.out) HZ.out HU.out).mono ?_; rintro e wn ⟨rfl, hbn⟩; replace HB := Lib.hid (cur_step1 HB.out hbn); replace HK := Lib.hid (HK.out.to hbn); have d0 : wn.cell? ⟨g, 0, none⟩ = some (.string z.p) := HK.out.get (by simp); have d1 : wn.cell? ⟨g, 1, none⟩ = some (.string z.t) := HK.out.get (by simp); have d2 : wn.cell? ⟨g, 2, none⟩ = some (.int .i64 z.d) := HK.out.get (by simp); have hgl := HK.out.lt (b := g) (o := 2) (v := .int .i64 z.d) (by simp); clear hbn)
                        | (go_at_call 66; refine (cont_w _ _ _ z.d g _ _ hwl6 (HWR.out.to HB.out) d2 hgl HO.out).mono ?_; rintro e wn ⟨rfl, hbn⟩; replace HB := Lib.hid (cur_step1 HB.out hbn); replace HK := Lib.hid (HK.out.to hbn); have d0 : wn.cell? ⟨g, 0, none⟩ = some (.string z.p) := HK.out.get (by simp); have d1 : wn.cell? ⟨g, 1, none⟩ = some (.string z.t) := HK.out.get (by simp); have d2 : wn.cell? ⟨g, 2, none⟩ = some (.int .i64 z.d) := HK.out.get (by simp); have hgl := HK.out.lt (b := g) (o := 2) (v := .int .i64 z.d) (by simp); clear hbn))
                      go_ret2
                      exact ⟨ret_two HE.out.1 HE.out.2, HB.out⟩
                  · rw [hbo] at hob
                    have HE := Lib.hid (FIN.out 8 (by rw [HT.out, HC.out, hd, HBT.out, hbo]; rfl) (by decide))
                    clear hbo hd
                    go_wp2_with (first
                      | (go_at_call 48; refine (name_p _ ?_ _ ?_ ?_).mono ?_; rotate_left 1; (first | exact HSP.out | exact HST.out); (first | exact HN1.out | exact HN2.out); rintro e wn ⟨rfl, hbn⟩; replace HB := Lib.hid (cur_step1 HB.out hbn); replace HK := Lib.hid (HK.out.to hbn); have d0 : wn.cell? ⟨g, 0, none⟩ = some (.string z.p) := HK.out.get (by simp); have d1 : wn.cell? ⟨g, 1, none⟩ = some (.string z.t) := HK.out.get (by simp); have d2 : wn.cell? ⟨g, 2, none⟩ = some (.int .i64 z.d) := HK.out.get (by simp); have hgl := HK.out.lt (b := g) (o := 2) (v := .int .i64 z.d) (by simp); clear hbn)
                      | (go_at_call 63; refine (isDay_p _ _ _ HD.out).mono ?_; rintro e wn ⟨rfl, rfl⟩))
                    obtain ⟨CS, hCS⟩ : ∃ CS : List (Nat × Nat × Value), CS = [(g, 0, .string z.p), (g, 1, .string z.t), (g, 2, .int .i64 z.d)] := ⟨_, rfl⟩
                    have K3 : Keep w wn CS := by rw [hCS]; exact HK.out
                    have k0 : ∀ s : Wd w CS, s.w.cell? ⟨g, 0, none⟩ = some (.string z.p) := fun s => s.h.get (by simp [hCS])
                    have k1 : ∀ s : Wd w CS, s.w.cell? ⟨g, 1, none⟩ = some (.string z.t) := fun s => s.h.get (by simp [hCS])
                    have k2 : ∀ s : Wd w CS, s.w.cell? ⟨g, 2, none⟩ = some (.int .i64 z.d) := fun s => s.h.get (by simp [hCS])
                    have y0 : ∀ s : Wd w CS, s.w.cell? ⟨b, off + q * 3, none⟩ = some (.string y.p) := fun s => (s.h.1.cell (p := ⟨b, off + q * 3, none⟩) hbb).trans p0
                    have y1 : ∀ s : Wd w CS, s.w.cell? ⟨b, off + q * 3 + 1, none⟩ = some (.string y.t) := fun s => (s.h.1.cell (p := ⟨b, off + q * 3 + 1, none⟩) hbb).trans p1
                    have y2 : ∀ s : Wd w CS, s.w.cell? ⟨b, off + q * 3 + 2, none⟩ = some (.int .i64 y.d) := fun s => (s.h.1.cell (p := ⟨b, off + q * 3 + 2, none⟩) hbb).trans p2
                    have hex : ∀ s : Wd w CS, ∃ s' : Wd w CS, s.w = s'.w := fun s => ⟨s, rfl⟩
                    haveI hne : Nonempty (Wd w CS) := ⟨⟨_, K3⟩⟩
                    have HCS := Lib.hid hCS
                    clear hCS
                    refine wp_region_wd w CS (by kernel_rfl) (by kernel_rfl) K3.drew ?_
                    repeat (go_big_quiet_step ((go_at_call 64; refine (order_f y z r _ HRR.out).mono ?_; rintro e w4 ⟨rfl, hb4⟩; exact ⟨rfl, ⟨w4, (Wd.h _).to hb4⟩, rfl⟩)))
                    refine wpQuiet_nil ?_
                    rintro wm ⟨s4, hs4⟩
                    have K4 : Keep w wm CS := by rw [hs4]; exact s4.h
                    clear hs4 s4
                    rw [HCS.out] at K4
                    clear k0 k1 k2 y0 y1 y2 hex hne K3 HCS
                    (try simp only [])
                    replace HK := Lib.hid K4
                    replace HB := Lib.hid K4.1
                    clear K4
                    go_wp2_with fail
                    go_ret2
                    exact ⟨ret_two HE.out.1 HE.out.2, HB.out⟩
          · rw [hte] at et
            have HC := Lib.hid (show err1 l k z = if !isDayB z.d then 2 else if befT l k z then 8 else 0 by simp [err1, hn1, hte])
            have HN1 := Lib.hid hn1
            have HTE := Lib.hid hte
            clear hn1 hte
            cases hd : isDayB z.d
            · have HE := Lib.hid (FIN.out 2 (by rw [HT.out, HC.out, hd]; rfl) (by decide))
              have HD := Lib.hid hd
              clear hd
              go_wp2_with (first
                | (go_at_call 48; refine (name_p _ ?_ _ ?_ ?_).mono ?_; rotate_left 1; (first | exact HSP.out | exact HST.out); (first | exact HN1.out); rintro e wn ⟨rfl, hbn⟩; replace HB := Lib.hid (cur_step1 HB.out hbn); replace HK := Lib.hid (HK.out.to hbn); have d0 : wn.cell? ⟨g, 0, none⟩ = some (.string z.p) := HK.out.get (by simp); have d1 : wn.cell? ⟨g, 1, none⟩ = some (.string z.t) := HK.out.get (by simp); have d2 : wn.cell? ⟨g, 2, none⟩ = some (.int .i64 z.d) := HK.out.get (by simp); have hgl := HK.out.lt (b := g) (o := 2) (v := .int .i64 z.d) (by simp); clear hbn)
                | (go_at_call 63; refine (isDay_p _ _ _ HD.out).mono ?_; rintro e wn ⟨rfl, rfl⟩))
              go_ret2
              exact ⟨ret_two HE.out.1 HE.out.2, HB.out⟩
            · have HD := Lib.hid hd
              obtain ⟨u, hu⟩ : ∃ u, bef l z.p k = u := ⟨_, rfl⟩
              obtain ⟨o, ho⟩ : ∃ o, openW ws z.d = o := ⟨_, rfl⟩
              have HU := Lib.hid hu
              have HO := Lib.hid ho
              clear hu ho
              have es := seq_to z.t u
              have eu := isE_to u
              rcases Nat.eq_zero_or_pos k with hk0 | hk0
              · have hb0 : befT l k z = false := by rw [hk0]; rfl
                have hkd : decide ((0 : Int) < (k : Int)) = false := decide_eq_false (by omega)
                have hkd2 : decide (0 < k) = false := decide_eq_false (by omega)
                have HK0 := Lib.hid hk0
                clear hk0
                have HT2 := Lib.hid (show tErr ws l k = err2 ws z u by rw [HT.out, HC.out, hd, hb0]; simp [HU.out])
                clear hd
                cases hs : seq z.t u
                · rw [hs] at es
                  have HE := Lib.hid (show tErr ws l k = 0 by rw [HT2.out]; simp [err2, hs, HTE.out])
                  clear hs
                  go_wp2_with (first
                    | (go_at_call 48; refine (name_p _ ?_ _ ?_ ?_).mono ?_; rotate_left 1; (first | exact HSP.out | exact HST.out); (first | exact HN1.out); rintro e wn ⟨rfl, hbn⟩; replace HB := Lib.hid (cur_step1 HB.out hbn); replace HK := Lib.hid (HK.out.to hbn); have d0 : wn.cell? ⟨g, 0, none⟩ = some (.string z.p) := HK.out.get (by simp); have d1 : wn.cell? ⟨g, 1, none⟩ = some (.string z.t) := HK.out.get (by simp); have d2 : wn.cell? ⟨g, 2, none⟩ = some (.int .i64 z.d) := HK.out.get (by simp); have hgl := HK.out.lt (b := g) (o := 2) (v := .int .i64 z.d) (by simp); clear hbn)
                    | (go_at_call 63; refine (isDay_p _ _ _ HD.out).mono ?_; rintro e wn ⟨rfl, rfl⟩))
                  go_quiet (fail)
                  go_wp2_with fail
                  refine (before_p _ _ _ k z u _ hl6 (HR.out.to (below_drewN HB.out _)) HZ.out HU.out).mono ?_
                  rintro e wn ⟨rfl, hbn⟩
                  replace HB := Lib.hid (cur_step1 (below_drewN HB.out _) hbn)
                  replace HK := Lib.hid (Keep.to ⟨below_drewN HK.out.1 _, HK.out.2⟩ hbn)
                  have d0 : wn.cell? ⟨g, 0, none⟩ = some (.string z.p) := HK.out.get (by simp)
                  have d1 : wn.cell? ⟨g, 1, none⟩ = some (.string z.t) := HK.out.get (by simp)
                  have d2 : wn.cell? ⟨g, 2, none⟩ = some (.int .i64 z.d) := HK.out.get (by simp)
                  have hgl := HK.out.lt (b := g) (o := 2) (v := .int .i64 z.d) (by simp)
                  clear hbn
                  go_wp2_with (first
                    | (go_at_call 66; refine (cont_w _ _ _ z.d g _ _ hwl6 (HWR.out.to HB.out) d2 hgl HO.out).mono ?_; rintro e wn ⟨rfl, hbn⟩; replace HB := Lib.hid (cur_step1 HB.out hbn); replace HK := Lib.hid (HK.out.to hbn); have d0 : wn.cell? ⟨g, 0, none⟩ = some (.string z.p) := HK.out.get (by simp); have d1 : wn.cell? ⟨g, 1, none⟩ = some (.string z.t) := HK.out.get (by simp); have d2 : wn.cell? ⟨g, 2, none⟩ = some (.int .i64 z.d) := HK.out.get (by simp); have hgl := HK.out.lt (b := g) (o := 2) (v := .int .i64 z.d) (by simp); clear hbn))
                  go_roundw
                  case rel => exact ⟨k + 1, hlt, by simp, NXT.out HE.out, HB.out⟩
                  case measure => simp [intOf]; omega
                · rw [hs] at es
                  have HE := Lib.hid (FIN.out 1 (by rw [HT2.out]; simp [err2, hs]) (by decide))
                  clear hs
                  go_wp2_with (first
                    | (go_at_call 48; refine (name_p _ ?_ _ ?_ ?_).mono ?_; rotate_left 1; (first | exact HSP.out | exact HST.out); (first | exact HN1.out); rintro e wn ⟨rfl, hbn⟩; replace HB := Lib.hid (cur_step1 HB.out hbn); replace HK := Lib.hid (HK.out.to hbn); have d0 : wn.cell? ⟨g, 0, none⟩ = some (.string z.p) := HK.out.get (by simp); have d1 : wn.cell? ⟨g, 1, none⟩ = some (.string z.t) := HK.out.get (by simp); have d2 : wn.cell? ⟨g, 2, none⟩ = some (.int .i64 z.d) := HK.out.get (by simp); have hgl := HK.out.lt (b := g) (o := 2) (v := .int .i64 z.d) (by simp); clear hbn)
                    | (go_at_call 63; refine (isDay_p _ _ _ HD.out).mono ?_; rintro e wn ⟨rfl, rfl⟩))
                  go_quiet (fail)
                  go_wp2_with fail
                  refine (before_p _ _ _ k z u _ hl6 (HR.out.to (below_drewN HB.out _)) HZ.out HU.out).mono ?_
                  rintro e wn ⟨rfl, hbn⟩
                  replace HB := Lib.hid (cur_step1 (below_drewN HB.out _) hbn)
                  replace HK := Lib.hid (Keep.to ⟨below_drewN HK.out.1 _, HK.out.2⟩ hbn)
                  have d0 : wn.cell? ⟨g, 0, none⟩ = some (.string z.p) := HK.out.get (by simp)
                  have d1 : wn.cell? ⟨g, 1, none⟩ = some (.string z.t) := HK.out.get (by simp)
                  have d2 : wn.cell? ⟨g, 2, none⟩ = some (.int .i64 z.d) := HK.out.get (by simp)
                  have hgl := HK.out.lt (b := g) (o := 2) (v := .int .i64 z.d) (by simp)
                  clear hbn
                  go_wp2_with (first
                    | (go_at_call 66; refine (cont_w _ _ _ z.d g _ _ hwl6 (HWR.out.to HB.out) d2 hgl HO.out).mono ?_; rintro e wn ⟨rfl, hbn⟩; replace HB := Lib.hid (cur_step1 HB.out hbn); replace HK := Lib.hid (HK.out.to hbn); have d0 : wn.cell? ⟨g, 0, none⟩ = some (.string z.p) := HK.out.get (by simp); have d1 : wn.cell? ⟨g, 1, none⟩ = some (.string z.t) := HK.out.get (by simp); have d2 : wn.cell? ⟨g, 2, none⟩ = some (.int .i64 z.d) := HK.out.get (by simp); have hgl := HK.out.lt (b := g) (o := 2) (v := .int .i64 z.d) (by simp); clear hbn))
                  go_ret2
                  exact ⟨ret_two HE.out.1 HE.out.2, HB.out⟩
              · obtain ⟨q, hq⟩ : ∃ q, k = q + 1 := ⟨k - 1, by omega⟩
                have hi : (k : Int) - 1 = (q : Int) := by omega
                have hql : q < l.length := by omega
                have hkd : decide ((0 : Int) < (k : Int)) = true := decide_eq_true (by omega)
                have hqd : decide ((q : Int) < (l.length : Int)) = true := decide_eq_true (by omega)
                have hqb : (0 : Int) ≤ (q : Int) := by omega
                have hqb2 : (q : Int) < (l.length : Int) := by omega
                have hwr : IntKind.i64.wrap ((k : Int) - 1) = (q : Int) := by (rw [hi]; simp [IntKind.wrap, IntKind.bits, IntKind.signed]; omega)
                obtain ⟨y, hy⟩ : ∃ y, l[q]? = some y := ⟨_, List.getElem?_eq_getElem hql⟩
                obtain ⟨r, hr0⟩ : ∃ r, (if cmpI y.d z.d = 0 then cmpS y.p z.p else cmpI y.d z.d) = r := ⟨_, rfl⟩
                have HRR := Lib.hid hr0
                have hob := ord_prog y z
                rw [hr0] at hob
                have HBT := Lib.hid (show befT l k z = badO y z by rw [hq, befT_at hy])
                have HY := Lib.hid hy
                obtain ⟨b5, off5, h5, _, hcl5⟩ := HR.out.at_ (Below.refl _ _) hy
                injection h5 with h5
                injection h5 with h6 h7 _
                subst h6 h7
                obtain ⟨p0, p1, p2⟩ := tr_cells hcl5
                clear hcl5
                have HQ := Lib.hid hq
                clear hq hy hr0
                cases hbo : badO y z
                · rw [hbo] at hob
                  have hb0 : befT l k z = false := by rw [HBT.out, hbo]
                  clear hbo
                  have HT2 := Lib.hid (show tErr ws l k = err2 ws z u by rw [HT.out, HC.out, hd, hb0]; simp [HU.out])
                  clear hd
                  cases hs : seq z.t u
                  · rw [hs] at es
                    have HE := Lib.hid (show tErr ws l k = 0 by rw [HT2.out]; simp [err2, hs, HTE.out])
                    clear hs
                    go_wp2_with (first
                      | (go_at_call 48; refine (name_p _ ?_ _ ?_ ?_).mono ?_; rotate_left 1; (first | exact HSP.out | exact HST.out); (first | exact HN1.out); rintro e wn ⟨rfl, hbn⟩; replace HB := Lib.hid (cur_step1 HB.out hbn); replace HK := Lib.hid (HK.out.to hbn); have d0 : wn.cell? ⟨g, 0, none⟩ = some (.string z.p) := HK.out.get (by simp); have d1 : wn.cell? ⟨g, 1, none⟩ = some (.string z.t) := HK.out.get (by simp); have d2 : wn.cell? ⟨g, 2, none⟩ = some (.int .i64 z.d) := HK.out.get (by simp); have hgl := HK.out.lt (b := g) (o := 2) (v := .int .i64 z.d) (by simp); clear hbn)
                      | (go_at_call 63; refine (isDay_p _ _ _ HD.out).mono ?_; rintro e wn ⟨rfl, rfl⟩))
                    obtain ⟨CS, hCS⟩ : ∃ CS : List (Nat × Nat × Value), CS = [(g, 0, .string z.p), (g, 1, .string z.t), (g, 2, .int .i64 z.d)] := ⟨_, rfl⟩
                    have K3 : Keep w wn CS := by rw [hCS]; exact HK.out
                    have k0 : ∀ s : Wd w CS, s.w.cell? ⟨g, 0, none⟩ = some (.string z.p) := fun s => s.h.get (by simp [hCS])
                    have k1 : ∀ s : Wd w CS, s.w.cell? ⟨g, 1, none⟩ = some (.string z.t) := fun s => s.h.get (by simp [hCS])
                    have k2 : ∀ s : Wd w CS, s.w.cell? ⟨g, 2, none⟩ = some (.int .i64 z.d) := fun s => s.h.get (by simp [hCS])
                    have y0 : ∀ s : Wd w CS, s.w.cell? ⟨b, off + q * 3, none⟩ = some (.string y.p) := fun s => (s.h.1.cell (p := ⟨b, off + q * 3, none⟩) hbb).trans p0
                    have y1 : ∀ s : Wd w CS, s.w.cell? ⟨b, off + q * 3 + 1, none⟩ = some (.string y.t) := fun s => (s.h.1.cell (p := ⟨b, off + q * 3 + 1, none⟩) hbb).trans p1
                    have y2 : ∀ s : Wd w CS, s.w.cell? ⟨b, off + q * 3 + 2, none⟩ = some (.int .i64 y.d) := fun s => (s.h.1.cell (p := ⟨b, off + q * 3 + 2, none⟩) hbb).trans p2
                    have hex : ∀ s : Wd w CS, ∃ s' : Wd w CS, s.w = s'.w := fun s => ⟨s, rfl⟩
                    haveI hne : Nonempty (Wd w CS) := ⟨⟨_, K3⟩⟩
                    have HCS := Lib.hid hCS
                    clear hCS
                    refine wp_region_wd w CS (by kernel_rfl) (by kernel_rfl) K3.drew ?_
                    repeat (go_big_quiet_step ((go_at_call 64; refine (order_f y z r _ HRR.out).mono ?_; rintro e w4 ⟨rfl, hb4⟩; exact ⟨rfl, ⟨w4, (Wd.h _).to hb4⟩, rfl⟩)))
                    refine wpQuiet_nil ?_
                    rintro wm ⟨s4, hs4⟩
                    have K4 : Keep w wm CS := by rw [hs4]; exact s4.h
                    clear hs4 s4
                    rw [HCS.out] at K4
                    clear k0 k1 k2 y0 y1 y2 hex hne K3 HCS
                    (try simp only [])
                    replace HK := Lib.hid K4
                    replace HB := Lib.hid K4.1
                    clear K4
                    go_wp2_with (first
                      | (go_at_call 65; refine (before_p _ _ _ k z u _ hl6 (HR.out.to HB.out) HZ.out HU.out).mono ?_; rintro e wn ⟨rfl, hbn⟩; replace HB := Lib.hid (cur_step1 HB.out hbn); replace HK := Lib.hid (HK.out.to hbn); have d0 : wn.cell? ⟨g, 0, none⟩ = some (.string z.p) := HK.out.get (by simp); have d1 : wn.cell? ⟨g, 1, none⟩ = some (.string z.t) := HK.out.get (by simp); have d2 : wn.cell? ⟨g, 2, none⟩ = some (.int .i64 z.d) := HK.out.get (by simp); have hgl := HK.out.lt (b := g) (o := 2) (v := .int .i64 z.d) (by simp); clear hbn)
                      | (go_at_call 66; refine (cont_w _ _ _ z.d g _ _ hwl6 (HWR.out.to HB.out) d2 hgl HO.out).mono ?_; rintro e wn ⟨rfl, hbn⟩; replace HB := Lib.hid (cur_step1 HB.out hbn); replace HK := Lib.hid (HK.out.to hbn); have d0 : wn.cell? ⟨g, 0, none⟩ = some (.string z.p) := HK.out.get (by simp); have d1 : wn.cell? ⟨g, 1, none⟩ = some (.string z.t) := HK.out.get (by simp); have d2 : wn.cell? ⟨g, 2, none⟩ = some (.int .i64 z.d) := HK.out.get (by simp); have hgl := HK.out.lt (b := g) (o := 2) (v := .int .i64 z.d) (by simp); clear hbn))
                    go_roundw
                    case rel => exact ⟨k + 1, hlt, by simp, NXT.out HE.out, HB.out⟩
                    case measure => simp [intOf]; omega
                  · rw [hs] at es
                    have HE := Lib.hid (FIN.out 1 (by rw [HT2.out]; simp [err2, hs]) (by decide))
                    clear hs
                    go_wp2_with (first
                      | (go_at_call 48; refine (name_p _ ?_ _ ?_ ?_).mono ?_; rotate_left 1; (first | exact HSP.out | exact HST.out); (first | exact HN1.out); rintro e wn ⟨rfl, hbn⟩; replace HB := Lib.hid (cur_step1 HB.out hbn); replace HK := Lib.hid (HK.out.to hbn); have d0 : wn.cell? ⟨g, 0, none⟩ = some (.string z.p) := HK.out.get (by simp); have d1 : wn.cell? ⟨g, 1, none⟩ = some (.string z.t) := HK.out.get (by simp); have d2 : wn.cell? ⟨g, 2, none⟩ = some (.int .i64 z.d) := HK.out.get (by simp); have hgl := HK.out.lt (b := g) (o := 2) (v := .int .i64 z.d) (by simp); clear hbn)
                      | (go_at_call 63; refine (isDay_p _ _ _ HD.out).mono ?_; rintro e wn ⟨rfl, rfl⟩))
                    obtain ⟨CS, hCS⟩ : ∃ CS : List (Nat × Nat × Value), CS = [(g, 0, .string z.p), (g, 1, .string z.t), (g, 2, .int .i64 z.d)] := ⟨_, rfl⟩
                    have K3 : Keep w wn CS := by rw [hCS]; exact HK.out
                    have k0 : ∀ s : Wd w CS, s.w.cell? ⟨g, 0, none⟩ = some (.string z.p) := fun s => s.h.get (by simp [hCS])
                    have k1 : ∀ s : Wd w CS, s.w.cell? ⟨g, 1, none⟩ = some (.string z.t) := fun s => s.h.get (by simp [hCS])
                    have k2 : ∀ s : Wd w CS, s.w.cell? ⟨g, 2, none⟩ = some (.int .i64 z.d) := fun s => s.h.get (by simp [hCS])
                    have y0 : ∀ s : Wd w CS, s.w.cell? ⟨b, off + q * 3, none⟩ = some (.string y.p) := fun s => (s.h.1.cell (p := ⟨b, off + q * 3, none⟩) hbb).trans p0
                    have y1 : ∀ s : Wd w CS, s.w.cell? ⟨b, off + q * 3 + 1, none⟩ = some (.string y.t) := fun s => (s.h.1.cell (p := ⟨b, off + q * 3 + 1, none⟩) hbb).trans p1
                    have y2 : ∀ s : Wd w CS, s.w.cell? ⟨b, off + q * 3 + 2, none⟩ = some (.int .i64 y.d) := fun s => (s.h.1.cell (p := ⟨b, off + q * 3 + 2, none⟩) hbb).trans p2
                    have hex : ∀ s : Wd w CS, ∃ s' : Wd w CS, s.w = s'.w := fun s => ⟨s, rfl⟩
                    haveI hne : Nonempty (Wd w CS) := ⟨⟨_, K3⟩⟩
                    have HCS := Lib.hid hCS
                    clear hCS
                    refine wp_region_wd w CS (by kernel_rfl) (by kernel_rfl) K3.drew ?_
                    repeat (go_big_quiet_step ((go_at_call 64; refine (order_f y z r _ HRR.out).mono ?_; rintro e w4 ⟨rfl, hb4⟩; exact ⟨rfl, ⟨w4, (Wd.h _).to hb4⟩, rfl⟩)))
                    refine wpQuiet_nil ?_
                    rintro wm ⟨s4, hs4⟩
                    have K4 : Keep w wm CS := by rw [hs4]; exact s4.h
                    clear hs4 s4
                    rw [HCS.out] at K4
                    clear k0 k1 k2 y0 y1 y2 hex hne K3 HCS
                    (try simp only [])
                    replace HK := Lib.hid K4
                    replace HB := Lib.hid K4.1
                    clear K4
                    go_wp2_with (first
                      | (go_at_call 65; refine (before_p _ _ _ k z u _ hl6 (HR.out.to HB.out) HZ.out HU.out).mono ?_; rintro e wn ⟨rfl, hbn⟩; replace HB := Lib.hid (cur_step1 HB.out hbn); replace HK := Lib.hid (HK.out.to hbn); have d0 : wn.cell? ⟨g, 0, none⟩ = some (.string z.p) := HK.out.get (by simp); have d1 : wn.cell? ⟨g, 1, none⟩ = some (.string z.t) := HK.out.get (by simp); have d2 : wn.cell? ⟨g, 2, none⟩ = some (.int .i64 z.d) := HK.out.get (by simp); have hgl := HK.out.lt (b := g) (o := 2) (v := .int .i64 z.d) (by simp); clear hbn)
                      | (go_at_call 66; refine (cont_w _ _ _ z.d g _ _ hwl6 (HWR.out.to HB.out) d2 hgl HO.out).mono ?_; rintro e wn ⟨rfl, hbn⟩; replace HB := Lib.hid (cur_step1 HB.out hbn); replace HK := Lib.hid (HK.out.to hbn); have d0 : wn.cell? ⟨g, 0, none⟩ = some (.string z.p) := HK.out.get (by simp); have d1 : wn.cell? ⟨g, 1, none⟩ = some (.string z.t) := HK.out.get (by simp); have d2 : wn.cell? ⟨g, 2, none⟩ = some (.int .i64 z.d) := HK.out.get (by simp); have hgl := HK.out.lt (b := g) (o := 2) (v := .int .i64 z.d) (by simp); clear hbn))
                    go_ret2
                    exact ⟨ret_two HE.out.1 HE.out.2, HB.out⟩
                · rw [hbo] at hob
                  have HE := Lib.hid (FIN.out 8 (by rw [HT.out, HC.out, hd, HBT.out, hbo]; rfl) (by decide))
                  clear hbo hd
                  go_wp2_with (first
                    | (go_at_call 48; refine (name_p _ ?_ _ ?_ ?_).mono ?_; rotate_left 1; (first | exact HSP.out | exact HST.out); (first | exact HN1.out); rintro e wn ⟨rfl, hbn⟩; replace HB := Lib.hid (cur_step1 HB.out hbn); replace HK := Lib.hid (HK.out.to hbn); have d0 : wn.cell? ⟨g, 0, none⟩ = some (.string z.p) := HK.out.get (by simp); have d1 : wn.cell? ⟨g, 1, none⟩ = some (.string z.t) := HK.out.get (by simp); have d2 : wn.cell? ⟨g, 2, none⟩ = some (.int .i64 z.d) := HK.out.get (by simp); have hgl := HK.out.lt (b := g) (o := 2) (v := .int .i64 z.d) (by simp); clear hbn)
                    | (go_at_call 63; refine (isDay_p _ _ _ HD.out).mono ?_; rintro e wn ⟨rfl, rfl⟩))
                  obtain ⟨CS, hCS⟩ : ∃ CS : List (Nat × Nat × Value), CS = [(g, 0, .string z.p), (g, 1, .string z.t), (g, 2, .int .i64 z.d)] := ⟨_, rfl⟩
                  have K3 : Keep w wn CS := by rw [hCS]; exact HK.out
                  have k0 : ∀ s : Wd w CS, s.w.cell? ⟨g, 0, none⟩ = some (.string z.p) := fun s => s.h.get (by simp [hCS])
                  have k1 : ∀ s : Wd w CS, s.w.cell? ⟨g, 1, none⟩ = some (.string z.t) := fun s => s.h.get (by simp [hCS])
                  have k2 : ∀ s : Wd w CS, s.w.cell? ⟨g, 2, none⟩ = some (.int .i64 z.d) := fun s => s.h.get (by simp [hCS])
                  have y0 : ∀ s : Wd w CS, s.w.cell? ⟨b, off + q * 3, none⟩ = some (.string y.p) := fun s => (s.h.1.cell (p := ⟨b, off + q * 3, none⟩) hbb).trans p0
                  have y1 : ∀ s : Wd w CS, s.w.cell? ⟨b, off + q * 3 + 1, none⟩ = some (.string y.t) := fun s => (s.h.1.cell (p := ⟨b, off + q * 3 + 1, none⟩) hbb).trans p1
                  have y2 : ∀ s : Wd w CS, s.w.cell? ⟨b, off + q * 3 + 2, none⟩ = some (.int .i64 y.d) := fun s => (s.h.1.cell (p := ⟨b, off + q * 3 + 2, none⟩) hbb).trans p2
                  have hex : ∀ s : Wd w CS, ∃ s' : Wd w CS, s.w = s'.w := fun s => ⟨s, rfl⟩
                  haveI hne : Nonempty (Wd w CS) := ⟨⟨_, K3⟩⟩
                  have HCS := Lib.hid hCS
                  clear hCS
                  refine wp_region_wd w CS (by kernel_rfl) (by kernel_rfl) K3.drew ?_
                  repeat (go_big_quiet_step ((go_at_call 64; refine (order_f y z r _ HRR.out).mono ?_; rintro e w4 ⟨rfl, hb4⟩; exact ⟨rfl, ⟨w4, (Wd.h _).to hb4⟩, rfl⟩)))
                  refine wpQuiet_nil ?_
                  rintro wm ⟨s4, hs4⟩
                  have K4 : Keep w wm CS := by rw [hs4]; exact s4.h
                  clear hs4 s4
                  rw [HCS.out] at K4
                  clear k0 k1 k2 y0 y1 y2 hex hne K3 HCS
                  (try simp only [])
                  replace HK := Lib.hid K4
                  replace HB := Lib.hid K4.1
                  clear K4
                  go_wp2_with fail
                  go_ret2
                  exact ⟨ret_two HE.out.1 HE.out.2, HB.out⟩
      · have hke : k = l.length := by omega
        have HE := Lib.hid (show (-1 : Int) = r1 ∧ (0 : Int) = r2 by have h := HV.out; rw [ckT_end HW0.out hl (by rw [← hke]; exact HNO.out)] at h; injection h with h1 h2; exact ⟨h1, h2⟩)
        go_wp2
        go_ret2
        exact ⟨ret_two HE.out.1 HE.out.2, HB0.out⟩
  · obtain ⟨r, hr0⟩ : ∃ r, ckW ws = r := ⟨_, rfl⟩
    have HR0 := Lib.hid hr0
    have hrn : (r == 0) = false := by rw [← hr0]; simpa using hw0
    have HV2 := Lib.hid (show (-1 : Int) = r1 ∧ r = r2 by have h := HV.out; rw [ckT_win hw0, hr0] at h; injection h with h1 h2; exact ⟨h1, h2⟩)
    clear hw0 hr0
    go_enter Tryz.func39, Tryz.ntmps39
    go_wp2_with (go_at_call 62; refine (ckW_p _ _ _ r _ hwl HWR.out HR0.out).mono ?_; rintro e w1 ⟨rfl, hb1⟩)
    go_ret2
    exact ⟨ret_two HV2.out.1 HV2.out.2, hb1⟩
end Go.Proofs.YtpninpohligomaaGreatDoor
