/-
  Chapter 54: the first error of windows.
-/
import Derived.Test.YtpninpohligomaaGreatDoorWin54
set_option linter.unusedSimpArgs false
set_option linter.unusedVariables false
namespace Go.Proofs.YtpninpohligomaaGreatDoor
open Go.RowKit
set_option maxRecDepth 100000
set_option maxHeartbeats 1000000
theorem wErr_at {w : List Wn} {k : Nat} {x : Wn} (h : w[k]? = some x) : wErr w k = if !isDayB x.f || !isDayB x.t then 2 else if decide (x.t < x.f) || befW w k x then 8 else 0 := by simp [wErr, h]
theorem befW_at {w : List Wn} {k : Nat} {x y : Wn} (h : w[k]? = some y) : befW w (k + 1) x = decide (x.f ≤ y.t) := by simp [befW, h]
theorem ckW_of {w : List Wn} {k : Nat} (hl : w.length ≤ 32) (hno : ∀ j, j < k → wErr w j = 0) (hk : k < w.length) (he : wErr w k ≠ 0) : ckW w = wErr w k := by
  unfold ckW
  rw [if_neg (by omega), scan_some hno he hk]
  rfl
theorem ckW_end {w : List Wn} (hl : w.length ≤ 32) (hno : ∀ j, j < w.length → wErr w j = 0) : ckW w = 0 := by
  unfold ckW
  rw [if_neg (by omega), scan_none hno]
  rfl
def CkWR (w : World) (l : List Wn) (i : Value) (wr : World) : Prop := ∃ k : Nat, k ≤ l.length ∧ i = .int .i64 k ∧ (∀ j, j < k → wErr l j = 0) ∧ Below w.heap.size w wr
theorem ckW_p (A : Option Addr) (c : Nat) (l : List Wn) (v : Int) (w : World) (hl : l.length ≤ 32) (hr : Rd wnE 2 w w.heap.size A l) (hv : ckW l = v) :
    Calls Tryz.prog 62 #[.slice A l.length c] w fun e w' => e = .returned (.int .i64 v) ∧ Below w.heap.size w w' := by
  have HV := Lib.hid hv
  have HR := Lib.hid hr
  clear hr hv
  go_enter Tryz.func62, Tryz.ntmps62
  go_wp2
  go_loopw [10] (CkWR w l) (fun i _ => l.length - (intOf i).toNat)
  case atStart => exact ⟨0, by simp, rfl, by intro j h; omega, Below.refl _ _⟩
  case round =>
    obtain ⟨k, hk, rfl, hno, hB⟩ := hrel
    have HNO := Lib.hid hno
    have HB := Lib.hid hB
    clear hno hB
    by_cases hlt2 : k < l.length
    · obtain ⟨x, hx⟩ : ∃ x, l[k]? = some x := ⟨_, List.getElem?_eq_getElem hlt2⟩
      obtain ⟨b, off, rfl, hbb, hcl⟩ := HR.out.at_ HB.out hx
      obtain ⟨c0, c1⟩ := wn_cells hcl
      have HX := Lib.hid hx
      have HW := Lib.hid (wErr_at hx)
      have hbl : b < wr.heap.size := by have := HB.out.size; omega
      clear hcl hx
      have fin : ∀ r : Int, wErr l k = r → r ≠ 0 → r = v := fun r h1 h2 => by rw [← HV.out, ckW_of hl HNO.out hlt2 (by rw [h1]; exact h2), h1]
      have nxt : wErr l k = 0 → ∀ j, j < k + 1 → wErr l j = 0 := fun h j hj => by
        by_cases e : j = k
        · rw [e]; exact h
        · exact HNO.out j (by omega)
      have FIN := Lib.hid fin
      have NXT := Lib.hid nxt
      clear fin nxt
      cases h1 : isDayB x.f
      · have H1 := Lib.hid h1
        have HE := Lib.hid (FIN.out 2 (by rw [HW.out, h1]; rfl) (by decide))
        clear h1
        go_wp2_with (go_at_call 63; refine (isDay_p _ _ _ H1.out).mono ?_; rintro e w1 ⟨rfl, rfl⟩)
        go_ret
        exact ⟨ret_int HE.out, cur_step1 HB.out (cur_new _ _)⟩
      · have H1 := Lib.hid h1
        cases h2 : isDayB x.t
        · have H2 := Lib.hid h2
          have HE := Lib.hid (FIN.out 2 (by rw [HW.out, h1, h2]; rfl) (by decide))
          clear h1 h2
          go_wp2_with (go_at_call 63; refine (isDay_p _ ?_ _ ?_).mono ?_; rotate_left 1; (first | exact H1.out | exact H2.out); rintro e w1 ⟨rfl, rfl⟩)
          go_ret
          exact ⟨ret_int HE.out, cur_step1 HB.out (cur_new _ _)⟩
        · have H2 := Lib.hid h2
          cases h3 : decide (x.t < x.f)
          · rcases Nat.eq_zero_or_pos k with hk0 | hk0
            · subst hk0
              have HE := Lib.hid (show wErr l 0 = 0 by rw [HW.out, h1, h2, h3]; rfl)
              clear h1 h2
              simp only [Nat.zero_mul, Nat.add_zero] at c0 c1
              go_wp2_with (go_at_call 63; refine (isDay_p _ ?_ _ ?_).mono ?_; rotate_left 1; (first | exact H1.out | exact H2.out); rintro e w1 ⟨rfl, rfl⟩)
              have hbx := cur_new wr (.cells #[.int .i64 x.f, .int .i64 x.t] 48)
              have hbk := Blk.new wr 48 [.int .i64 x.f, .int .i64 x.t]
              generalize wr.alloc (Obj.cells #[.int .i64 x.f, .int .i64 x.t] 48) = w2 at hbx hbk ⊢
              have d0 : w2.cell? ⟨wr.heap.size, 0, none⟩ = some (.int .i64 x.f) := hbk.cell 0
              have d1 : w2.cell? ⟨wr.heap.size, 1, none⟩ = some (.int .i64 x.t) := hbk.cell 1
              have hlt3 := hbk.lt
              have hbl2 : b < w2.heap.size := by omega
              have HB2 := Lib.hid (cur_step1 HB.out hbx)
              clear hbx hbk
              go_quiet (fail)
              go_wp2_with fail
              go_roundw
              case rel => exact ⟨0 + 1, hlt2, by simp, NXT.out HE.out, below_drewN HB2.out _⟩
              case measure => simp [intOf] <;> omega
            · obtain ⟨q, hq⟩ : ∃ q, k = q + 1 := ⟨k - 1, by omega⟩
              have hi : (k : Int) - 1 = (q : Int) := by omega
              have hql : q < l.length := by omega
              obtain ⟨y, hy⟩ : ∃ y, l[q]? = some y := ⟨_, List.getElem?_eq_getElem hql⟩
              have hkd : decide ((0 : Int) < (k : Int)) = true := decide_eq_true (by omega)
              have hqd : decide ((q : Int) < (l.length : Int)) = true := decide_eq_true (by omega)
              have HBW := Lib.hid (show befW l k x = decide (x.f ≤ y.t) by rw [hq, befW_at hy])
              obtain ⟨b5, off5, h5, _, hcl5⟩ := HR.out.at_ HB.out hy
              injection h5 with h5
              injection h5 with h6 h7 _
              subst h6 h7
              obtain ⟨_, cy⟩ := wn_cells hcl5
              have HQ := Lib.hid hq
              clear hq hcl5 hy
              cases h4 : decide (x.f ≤ y.t)
              · have HE := Lib.hid (show wErr l k = 0 by rw [HW.out, h1, h2, h3, HBW.out, h4]; rfl)
                clear h1 h2
                go_wp2_with (go_at_call 63; refine (isDay_p _ ?_ _ ?_).mono ?_; rotate_left 1; (first | exact H1.out | exact H2.out); rintro e w1 ⟨rfl, rfl⟩)
                have hbx := cur_new wr (.cells #[.int .i64 x.f, .int .i64 x.t] 48)
                have hbk := Blk.new wr 48 [.int .i64 x.f, .int .i64 x.t]
                generalize wr.alloc (Obj.cells #[.int .i64 x.f, .int .i64 x.t] 48) = w2 at hbx hbk ⊢
                have d0 : w2.cell? ⟨wr.heap.size, 0, none⟩ = some (.int .i64 x.f) := hbk.cell 0
                have d1 : w2.cell? ⟨wr.heap.size, 1, none⟩ = some (.int .i64 x.t) := hbk.cell 1
                have hlt3 := hbk.lt
                have hbl2 : b < w2.heap.size := by omega
                have HB2 := Lib.hid (cur_step1 HB.out hbx)
                have cy2 := (hbx.cell (p := ⟨b, off + q * 2 + 1, none⟩) hbl).trans cy
                clear hbx hbk cy
                go_quiet (fail)
                go_wp2_with fail
                go_roundw
                case rel => exact ⟨k + 1, hlt2, by simp, NXT.out HE.out, below_drewN HB2.out _⟩
                case measure => simp [intOf] <;> omega
              · have HE := Lib.hid (FIN.out 8 (by rw [HW.out, h1, h2, h3, HBW.out, h4]; rfl) (by decide))
                clear h1 h2
                go_wp2_with (go_at_call 63; refine (isDay_p _ ?_ _ ?_).mono ?_; rotate_left 1; (first | exact H1.out | exact H2.out); rintro e w1 ⟨rfl, rfl⟩)
                have hbx := cur_new wr (.cells #[.int .i64 x.f, .int .i64 x.t] 48)
                have hbk := Blk.new wr 48 [.int .i64 x.f, .int .i64 x.t]
                generalize wr.alloc (Obj.cells #[.int .i64 x.f, .int .i64 x.t] 48) = w2 at hbx hbk ⊢
                have d0 : w2.cell? ⟨wr.heap.size, 0, none⟩ = some (.int .i64 x.f) := hbk.cell 0
                have d1 : w2.cell? ⟨wr.heap.size, 1, none⟩ = some (.int .i64 x.t) := hbk.cell 1
                have hlt3 := hbk.lt
                have hbl2 : b < w2.heap.size := by omega
                have HB2 := Lib.hid (cur_step1 HB.out hbx)
                have cy2 := (hbx.cell (p := ⟨b, off + q * 2 + 1, none⟩) hbl).trans cy
                clear hbx hbk cy
                go_quiet (fail)
                go_wp2_with fail
                go_ret
                exact ⟨ret_int HE.out, below_drewN HB2.out _⟩
          · have HE := Lib.hid (FIN.out 8 (by rw [HW.out, h1, h2, h3]; rfl) (by decide))
            clear h1 h2
            go_wp2_with (go_at_call 63; refine (isDay_p _ ?_ _ ?_).mono ?_; rotate_left 1; (first | exact H1.out | exact H2.out); rintro e w1 ⟨rfl, rfl⟩)
            have hbx := cur_new wr (.cells #[.int .i64 x.f, .int .i64 x.t] 48)
            have hbk := Blk.new wr 48 [.int .i64 x.f, .int .i64 x.t]
            generalize wr.alloc (Obj.cells #[.int .i64 x.f, .int .i64 x.t] 48) = w2 at hbx hbk ⊢
            have d0 : w2.cell? ⟨wr.heap.size, 0, none⟩ = some (.int .i64 x.f) := hbk.cell 0
            have d1 : w2.cell? ⟨wr.heap.size, 1, none⟩ = some (.int .i64 x.t) := hbk.cell 1
            have hlt3 := hbk.lt
            have hbl2 : b < w2.heap.size := by omega
            have HB2 := Lib.hid (cur_step1 HB.out hbx)
            clear hbx hbk
            go_quiet (fail)
            go_wp2_with fail
            go_ret
            exact ⟨ret_int HE.out, below_drewN HB2.out _⟩
    · have hke : k = l.length := by omega
      go_wp2
      go_ret
      exact ⟨ret_int (by rw [← HV.out, ckW_end hl (by rw [← hke]; exact HNO.out)]), HB.out⟩
end Go.Proofs.YtpninpohligomaaGreatDoor
