/-
  Chapter 47: the check of a task.
-/
import Derived.Test.YtkmkdknjpnkkpaaGreatDoorChkR47
import Derived.Deep.QuietTactic
set_option linter.unusedSimpArgs false
set_option linter.unusedVariables false
namespace Go.Proofs.YtkmkdknjpnkkpaaGreatDoor
open Go.RowKit
set_option maxRecDepth 100000
set_option maxHeartbeats 1000000
def tkL (t : Tk) (A W : Option Addr) (c wc : Nat) : List Value := [.int .i64 t.ov, .int .i64 t.ld, .int .i64 t.sp, .slice A t.d.length c, .slice W t.win.length wc]
abbrev tkV (t : Tk) (A W : Option Addr) (c wc : Nat) : Value := .agg #[.int .i64 t.ov, .int .i64 t.ld, .int .i64 t.sp, .slice A t.d.length c, .slice W t.win.length wc]
theorem tk_cells {w : World} {g : Nat} {t : Tk} {A W : Option Addr} {c wc : Nat} (h : Blk w g 25 (tkL t A W c wc)) : w.cell? ⟨g, 0, none⟩ = some (.int .i64 t.ov) ∧ w.cell? ⟨g, 1, none⟩ = some (.int .i64 t.ld) ∧ w.cell? ⟨g, 2, none⟩ = some (.int .i64 t.sp) ∧ w.cell? ⟨g, 3, none⟩ = some (.slice A t.d.length c) ∧ w.cell? ⟨g, 4, none⟩ = some (.slice W t.win.length wc) :=
  ⟨h.cell 0, h.cell 1, h.cell 2, h.cell 3, h.cell 4⟩
/-- What the walks want of a task's sizes. -/
structure Sm (t : Tk) : Prop where
  d : t.d.length ≤ 100
  w : t.win.length ≤ 100
  l : ∀ x ∈ t.win, x.length ≤ 200
def prevI (l : List Int) (k : Nat) : Option Int := if k = 0 then none else l[k - 1]?
theorem previ_next {l : List Int} {k : Nat} {z : Int} (h : l[k]? = some z) : prevI l (k + 1) = some z := by
  unfold prevI
  rw [if_neg (by omega), Nat.add_sub_cancel, h]
def WinR (t : Tk) (v : Int) (w : World) (i : Value) (wr : World) : Prop := ∃ k : Nat, k ≤ t.win.length ∧ i = .int .i64 k ∧ wErr (t.win.drop k) = v ∧ Below w.heap.size w wr
def LstR (l : List Int) (r : Int) (w : World) (i : Value) (wr : World) : Prop := ∃ k : Nat, k ≤ l.length ∧ i = .int .i64 k ∧ lErr (prevI l k) (l.drop k) = r ∧ Below w.heap.size w wr
theorem ckt_p (t : Tk) (A W : Option Addr) (c wc : Nat) (v : Int) (w : World) (hs : Sm t) (hd : Rd ocE 3 w w.heap.size A t.d) (hw : Rd2 w w.heap.size W t.win) (hv : ckT t = v) :
    Calls Tryz.prog 15 #[tkV t A W c wc] w fun e w' => e = .returned (.int .i64 v) ∧ Below w.heap.size w w' := by
  unfold ckT at hv
  have hbk := Blk.new w 25 (tkL t A W c wc)
  have hb0 := cur_new w (.cells (tkL t A W c wc).toArray 25)
  have HD := Lib.hid hd
  have HW := Lib.hid hw
  have HS := Lib.hid hs
  clear hd hw
  by_cases h0 : rngT t = true
  · rw [if_pos h0] at hv
    subst hv
    unfold rngT at h0
    have H0 := Lib.hid (show t.ov < 0 ∨ 12 ≤ t.ov ∨ t.ld < -600 ∨ 600 < t.ld ∨ t.sp < 1 ∨ 600 < t.sp by simp at h0; omega)
    clear h0 hs
    unfold tkL at hbk hb0
    go_enter Tryz.func15, Tryz.ntmps15
    go_wp2_with fail
    all_goals first
      | (go_ret; exact ⟨rfl, hb0⟩)
      | (exfalso; have := H0.out; omega)
  rw [if_neg h0] at hv
  have g0 : ¬ t.ov < 0 ∧ ¬ 12 ≤ t.ov ∧ ¬ t.ld < -600 ∧ ¬ 600 < t.ld ∧ ¬ t.sp < 1 ∧ ¬ 600 < t.sp := by unfold rngT at h0; simp at h0; omega
  obtain ⟨g1, g2, g3, g4, g5, g6⟩ := g0
  clear h0
  have hsd := hs.d
  have hsw := hs.w
  clear hs
  unfold tkL at hbk hb0
  by_cases h1 : chT t.d ≠ 0
  · rw [if_pos h1] at hv
    obtain ⟨x, hx⟩ : ∃ x, chT t.d = x := ⟨_, rfl⟩
    rw [hx] at hv h1
    subst hv
    have e1 : (x != 0) = true := by simpa using h1
    have HX := Lib.hid hx
    clear hx h1
    go_enter Tryz.func15, Tryz.ntmps15
    go_wp2_with fail
    refine (chk_p A c t.d x _ (by omega) (HD.out.to hb0) HX.out).mono ?_
    rintro e w1 ⟨rfl, hb1⟩
    have HB := Lib.hid (cur_step1 hb0 hb1)
    clear hb1
    go_wp2
    go_ret
    exact ⟨rfl, HB.out⟩
  rw [if_neg h1] at hv
  have h1' : chT t.d = 0 := by simpa using h1
  have HX := Lib.hid h1'
  clear h1 h1'
  obtain ⟨q, hq⟩ : ∃ q, ((t.win.length : Int) != t.ov + 1) = q := ⟨_, rfl⟩
  go_enter Tryz.func15, Tryz.ntmps15
  go_wp2_with fail
  refine (chk_p A c t.d 0 _ (by omega) (HD.out.to hb0) HX.out).mono ?_
  rintro e w1 ⟨rfl, hb1⟩
  have HB := Lib.hid (cur_step1 hb0 hb1)
  obtain ⟨t0, t1, t2, t3, t4⟩ := tk_cells (hbk.to hb1)
  clear hb1 hbk hb0
  cases q
  · have h2 : (t.win.length : Int) = t.ov + 1 := by simpa using hq
    rw [if_neg (by omega)] at hv
    have HV := Lib.hid hv
    clear hv
    go_wp2_with fail
    go_loopw [52] (WinR t v w) (fun i _ => t.win.length - (intOf i).toNat)
    case atStart => exact ⟨0, by omega, rfl, HV.out, HB.out⟩
    case round =>
      clear t0 t1 t2 t3 t4 HB
      obtain ⟨k, hk, rfl, hq2, hb⟩ := hrel
      have HQ := Lib.hid hq2
      have HB := Lib.hid hb
      clear hq2 hb
      by_cases hlt : k < t.win.length
      · obtain ⟨l, hl⟩ : ∃ l, t.win[k]? = some l := ⟨_, List.getElem?_eq_getElem hlt⟩
        obtain ⟨b, off, rfl, hbb, A', c', hcl0, hrl⟩ := HW.out k l hl
        have hcl := (HB.out.cell (p := ⟨b, off + k, none⟩) hbb).trans hcl0
        clear hcl0
        have HL := Lib.hid hrl
        have HE := Lib.hid (HQ.out.symm.trans (wErr_drop hl))
        have hll := HS.out.l l (List.mem_of_getElem? hl)
        clear hrl hl
        by_cases h3 : l.length = 0
        · have HV2 := Lib.hid (show (6 : Int) = v by rw [HE.out, if_pos h3])
          have e0 : ((l.length : Int) == 0) = true := by rw [beq_iff_eq]; omega
          go_wp2_with fail
          go_ret
          exact ⟨ret_int HV2.out, HB.out⟩
        by_cases h4 : 100 < l.length
        · have HV2 := Lib.hid (show (9 : Int) = v by rw [HE.out, if_neg h3, if_pos h4])
          have e0 : ((l.length : Int) == 0) = false := by rw [beq_eq_false_iff_ne]; omega
          have e1 : decide ((100 : Int) < l.length) = true := by simp; omega
          go_wp2_with fail
          go_ret
          exact ⟨ret_int HV2.out, HB.out⟩
        have e0 : ((l.length : Int) == 0) = false := by rw [beq_eq_false_iff_ne]; omega
        have e1 : decide ((100 : Int) < l.length) = false := by simp; omega
        have HE2 := Lib.hid (show v = if lErr none l ≠ 0 then lErr none l else wErr (t.win.drop (k + 1)) by rw [HE.out, if_neg h3, if_neg h4])
        obtain ⟨r, hr⟩ : ∃ r, lErr none l = r := ⟨_, rfl⟩
        rw [hr] at HE2
        have HR := Lib.hid hr
        clear hr HE h3 h4
        go_wp2_with fail
        go_loopw [66] (LstR l r w) (fun i _ => l.length - (intOf i).toNat)
        case atStart => exact ⟨0, by omega, rfl, HR.out, HB.out⟩
        case round =>
          clear HB hcl
          obtain ⟨j, hj, rfl, hq3, hb⟩ := hrel
          have HQ3 := Lib.hid hq3
          have HB := Lib.hid hb
          have hbs := HB.out.size
          clear hq3 hb
          by_cases hlj : j < l.length
          · obtain ⟨x, hx⟩ : ∃ x, l[j]? = some x := ⟨_, List.getElem?_eq_getElem hlj⟩
            obtain ⟨b2, off2, rfl, hbb2, hcx⟩ := HL.out.at_ HB.out hx
            have cx := in_cell hcx
            have HE3 := Lib.hid (lErr_drop (p := prevI l j) hx)
            have HN := Lib.hid (previ_next hx)
            clear hcx
            by_cases hbad : x < 0 ∨ 16 < x
            · have HV2 := Lib.hid (show (2 : Int) = v by rw [HE2.out, ← HQ3.out, HE3.out, if_pos hbad]; rfl)
              have HBAD := Lib.hid hbad
              clear hx hbad
              go_wp2_with fail
              all_goals first
                | (go_ret; exact ⟨ret_int HV2.out, HB.out⟩)
                | (exfalso; have := HBAD.out; omega)
            · have g7 : ¬ x < 0 := fun h => hbad (.inl h)
              have g8 : ¬ 16 < x := fun h => hbad (.inr h)
              have HE4 := Lib.hid (HE3.out.trans (if_neg hbad))
              clear hbad HE3
              rcases Nat.eq_zero_or_pos j with rfl | hj0
              · have HE5 := Lib.hid (show lErr (prevI l (0 + 1)) (l.drop (0 + 1)) = r by rw [← HQ3.out, HE4.out, HN.out]; rfl)
                clear hx
                rw [Nat.add_zero] at cx
                go_wp2_with fail
                go_roundw
                case rel => exact ⟨0 + 1, hlj, by simp, HE5.out, HB.out⟩
                case measure => simp [intOf]; omega
              · obtain ⟨i, rfl⟩ : ∃ i, j = i + 1 := ⟨j - 1, by omega⟩
                obtain ⟨y, hy⟩ : ∃ y, l[i]? = some y := ⟨_, List.getElem?_eq_getElem (by omega)⟩
                have hpv : prevI l (i + 1) = some y := previ_next hy
                obtain ⟨b3, off3, e3, _, hcy⟩ := HL.out.at_ HB.out hy
                injection e3 with e3
                injection e3 with e31 e32 _
                subst e31 e32
                have cy := in_cell hcy
                have HPV := Lib.hid hpv
                clear hcy hy hpv hx
                by_cases hxy : x < y
                · have HV2 := Lib.hid (show (8 : Int) = v by rw [HE2.out, show r = 8 by rw [← HQ3.out, HE4.out, HPV.out]; simp [hxy]]; rfl)
                  have gxy : decide (x < y) = true := decide_eq_true hxy
                  go_wp2_with fail
                  go_ret
                  exact ⟨ret_int HV2.out, HB.out⟩
                · have HE5 := Lib.hid (show lErr (prevI l (i + 1 + 1)) (l.drop (i + 1 + 1)) = r by rw [← HQ3.out, HE4.out, HN.out, HPV.out, if_neg (by simp [hxy])])
                  have gxy : decide (x < y) = false := decide_eq_false hxy
                  go_wp2_with fail
                  go_roundw
                  case rel => exact ⟨i + 1 + 1, hlj, by simp, HE5.out, HB.out⟩
                  case measure => simp [intOf]; omega
          · have hr0 : r = 0 := by rw [← HQ3.out, lErr_end (by omega)]
            have HE3 := Lib.hid (show wErr (t.win.drop (k + 1)) = v by rw [HE2.out, if_neg (by rw [hr0]; simp)])
            go_wp2_with fail
            go_roundw
            case rel => exact ⟨k + 1, hlt, by simp, HE3.out, HB.out⟩
            case measure => simp [intOf]; omega
      · have HV2 := Lib.hid (show (0 : Int) = v by rw [← HQ.out, wErr_end (by omega)])
        go_wp2_with fail
        go_ret
        exact ⟨ret_int HV2.out, HB.out⟩
  · have h2 : (t.win.length : Int) ≠ t.ov + 1 := by simpa using hq
    rw [if_pos h2] at hv
    subst hv
    go_wp2_with fail
    go_ret
    exact ⟨rfl, HB.out⟩
end Go.Proofs.YtkmkdknjpnkkpaaGreatDoor
