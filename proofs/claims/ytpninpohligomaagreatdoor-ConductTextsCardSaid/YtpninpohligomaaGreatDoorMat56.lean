/-
  Chapter 56: the days of matches.
-/
import Derived.Test.YtpninpohligomaaGreatDoorPoint56
set_option linter.unusedSimpArgs false
set_option linter.unusedVariables false
namespace Go.Proofs.YtpninpohligomaaGreatDoor
open Go.RowKit
set_option maxRecDepth 100000
set_option maxHeartbeats 1000000
theorem in_cell {w : World} {b off k : Nat} {y : Int} (h : ∀ j u, (inE y)[j]? = some u → w.cell? ⟨b, off + k * 1 + j, none⟩ = some u) : w.cell? ⟨b, off + k, none⟩ = some (.int .i64 y) := by
  have := h 0 _ rfl
  simpa using this
theorem notday_f (d : Int) (v : Bool) (w : World) (hv : (!isDayB d) = v) : Calls Tryz.prog 73 #[.int .i64 d] w fun e w' => e = .returned (.bool v) ∧ w = w' := by
  obtain ⟨u, hu⟩ : ∃ u, isDayB d = u := ⟨_, rfl⟩
  have HU := Lib.hid hu
  rw [hu] at hv
  subst hv
  clear hu
  go_enter Tryz.func73, Tryz.ntmps73
  go_wp2_with (go_at_call 45; refine (isDay_p _ _ _ HU.out).mono ?_; rintro e w1 ⟨rfl, rfl⟩)
  go_ret
  exact ⟨rfl, rfl⟩
def IdxD (w : World) (l : List Int) (i : Value) (wr : World) : Prop := ∃ k : Nat, k ≤ l.length ∧ i = .int .i64 k ∧ (∀ j x, j < k → l[j]? = some x → isDayB x = true) ∧ Below w.heap.size w wr
theorem any_none {l : List Int} (h : ∀ j x, j < l.length → l[j]? = some x → isDayB x = true) : (l.any fun d => !isDayB d) = false := by
  rw [List.any_eq_false]
  intro x hx
  obtain ⟨j, hj, rfl⟩ := List.getElem_of_mem hx
  rw [h j _ hj (List.getElem?_eq_getElem hj)]
  simp
theorem any_some {l : List Int} {k : Nat} {x : Int} (h : l[k]? = some x) (hx : isDayB x = false) : (l.any fun d => !isDayB d) = true := by
  rw [List.any_eq_true]
  exact ⟨x, List.mem_of_getElem? h, by rw [hx]; rfl⟩
theorem idx_d (A : Option Addr) (c : Nat) (l : List Int) (v : Bool) (w : World) (hl : l.length ≤ 1000000) (hr : Rd inE 1 w w.heap.size A l) (hv : (l.any fun d => !isDayB d) = v) :
    Calls Tryz.prog 88 #[.slice A l.length c, .func (.func 73) #[] #[]] w fun e w' => ∃ r, e = .returned (.int .i64 r) ∧ decide (0 ≤ r) = v ∧ Below w.heap.size w w' := by
  have HV := Lib.hid hv
  have HR := Lib.hid hr
  clear hr hv
  go_enter Tryz.func88, Tryz.ntmps88
  go_wp2
  go_loopw [8] (IdxD w l) (fun i _ => l.length - (intOf i).toNat)
  case atStart => exact ⟨0, by simp, rfl, by intro j x h; omega, Below.refl _ _⟩
  case round =>
    obtain ⟨k, hk, rfl, hno, hB⟩ := hrel
    have HNO := Lib.hid hno
    have HB := Lib.hid hB
    clear hno hB
    by_cases hlt2 : k < l.length
    · obtain ⟨x, hx⟩ : ∃ x, l[k]? = some x := ⟨_, List.getElem?_eq_getElem hlt2⟩
      obtain ⟨b, off, rfl, hbb, hcl⟩ := HR.out.at_ HB.out hx
      have c0 := in_cell hcl
      have HX := Lib.hid hx
      clear hcl hx
      cases hi : isDayB x
      · have HI := Lib.hid (show (!isDayB x) = true by rw [hi]; rfl)
        have HI2 := Lib.hid hi
        clear hi
        go_wp2_with (go_at_call 73; refine (notday_f x _ _ HI.out).mono ?_; rintro e w1 ⟨rfl, rfl⟩)
        go_ret
        exact ⟨_, rfl, by rw [← HV.out, any_some HX.out HI2.out]; simp, HB.out⟩
      · have HI := Lib.hid (show (!isDayB x) = false by rw [hi]; rfl)
        have HI2 := Lib.hid hi
        clear hi
        go_wp2_with (go_at_call 73; refine (notday_f x _ _ HI.out).mono ?_; rintro e w1 ⟨rfl, rfl⟩)
        go_roundw
        case rel =>
          refine ⟨k + 1, hlt2, by simp, fun j y hj hy => ?_, HB.out⟩
          by_cases e : j = k
          · subst e
            rw [HX.out] at hy
            injection hy with hy
            rw [← hy]; exact HI2.out
          · exact HNO.out j y (by omega) hy
        case measure => simp [intOf]; omega
    · have hke : k = l.length := by omega
      go_wp2
      go_ret
      exact ⟨_, rfl, by rw [← HV.out, any_none (by rw [← hke]; exact HNO.out)]; simp, HB.out⟩
theorem cont_d (A : Option Addr) (c : Nat) (l : List Int) (v : Bool) (w : World) (hl : l.length ≤ 1000000) (hr : Rd inE 1 w w.heap.size A l) (hv : (l.any fun d => !isDayB d) = v) :
    Calls Tryz.prog 72 #[.slice A l.length c, .func (.func 73) #[] #[]] w fun e w' => e = .returned (.bool v) ∧ Below w.heap.size w w' := by
  have HV := Lib.hid hv
  have HR := Lib.hid hr
  clear hr hv
  go_enter Tryz.func72, Tryz.ntmps72
  go_wp2_with (go_at_call 88; refine (idx_d A c l v w hl HR.out HV.out).mono ?_; rintro e w1 ⟨r, rfl, hdec, hb1⟩; have HD := Lib.hid hdec; clear hdec)
  go_ret
  exact ⟨ret_bool HD.out, hb1⟩
theorem mErr_at {l : List Int} {q : Nat} {x y : Int} (h : l[q]? = some y) (h2 : l[q + 1]? = some x) : mErr l (q + 1) = if x ≤ y then 8 else 0 := by simp [mErr, h, h2]
theorem ckM_of {l : List Int} {k : Nat} (ha : (l.any fun d => !isDayB d) = false) (hno : ∀ j, j < k → mErr l j = 0) (hk : k < l.length) (he : mErr l k ≠ 0) : ckM l = mErr l k := by
  unfold ckM
  rw [ha, scan_some hno he hk]
  rfl
theorem ckM_end {l : List Int} (ha : (l.any fun d => !isDayB d) = false) (hno : ∀ j, j < l.length → mErr l j = 0) : ckM l = 0 := by
  unfold ckM
  rw [ha, scan_none hno]
  rfl
theorem ckM_any {l : List Int} (ha : (l.any fun d => !isDayB d) = true) : ckM l = 2 := by
  unfold ckM
  rw [ha]
  rfl
def CkMR (w : World) (l : List Int) (i : Value) (wr : World) : Prop := ∃ k : Nat, 1 ≤ k ∧ k ≤ l.length + 1 ∧ i = .int .i64 k ∧ (∀ j, j < k → j < l.length → mErr l j = 0) ∧ Below w.heap.size w wr
theorem ckM_p (A : Option Addr) (c : Nat) (l : List Int) (r : Int) (w : World) (hl : l.length ≤ 400) (hr : Rd inE 1 w w.heap.size A l) (hv : ckM l = r) :
    Calls Tryz.prog 47 #[.slice A l.length c] w fun e w' => e = .returned (.int .i64 r) ∧ Below w.heap.size w w' := by
  have HR := Lib.hid hr
  cases ha : l.any fun d => !isDayB d
  · have HA := Lib.hid ha
    have HV := Lib.hid hv
    clear ha hv hr
    go_enter Tryz.func47, Tryz.ntmps47
    go_wp2_with (go_at_call 72; refine (cont_d A c l false _ (by omega) HR.out HA.out).mono ?_; rintro e w1 ⟨rfl, hb1⟩; have HB1 := Lib.hid hb1; clear hb1)
    go_loopw [3] (CkMR w l) (fun i _ => l.length + 1 - (intOf i).toNat)
    case atStart =>
      refine ⟨1, by omega, by omega, rfl, fun j h _ => ?_, HB1.out⟩
      obtain rfl : j = 0 := by omega
      rfl
    case round =>
      clear HB1
      obtain ⟨k, hk1, hk2, rfl, hno, hB⟩ := hrel
      have HNO := Lib.hid hno
      have HB := Lib.hid hB
      clear hno hB
      by_cases hlt : k < l.length
      · obtain ⟨q, hq⟩ : ∃ q, k = q + 1 := ⟨k - 1, by omega⟩
        have hi : (k : Int) - 1 = (q : Int) := by omega
        have hql : q < l.length := by omega
        have hqd : decide ((q : Int) < (l.length : Int)) = true := decide_eq_true (by omega)
        obtain ⟨x, hx⟩ : ∃ x, l[k]? = some x := ⟨_, List.getElem?_eq_getElem hlt⟩
        obtain ⟨y, hy⟩ : ∃ y, l[q]? = some y := ⟨_, List.getElem?_eq_getElem hql⟩
        have HM := Lib.hid (show mErr l k = if x ≤ y then 8 else 0 by rw [hq]; exact mErr_at hy (by rw [← hq]; exact hx))
        obtain ⟨b, off, rfl, hbb, hcl⟩ := HR.out.at_ HB.out hx
        obtain ⟨b5, off5, h5, _, hcl5⟩ := HR.out.at_ HB.out hy
        injection h5 with h5
        injection h5 with h6 h7 _
        subst h6 h7
        have c0 := in_cell hcl
        have c1 := in_cell hcl5
        have hbl : b < wr.heap.size := by have := HB.out.size; omega
        have HQ := Lib.hid hq
        clear hcl hcl5 hx hy hq
        cases h1 : decide (x ≤ y)
        · have HE := Lib.hid (show mErr l k = 0 by rw [HM.out, if_neg (of_decide_eq_false h1)])
          go_wp2_with fail
          go_quiet (fail)
          go_wp2_with fail
          go_roundw
          case rel =>
            refine ⟨k + 1, by omega, by omega, by simp, fun j hj hjl => ?_, below_drewN HB.out _⟩
            by_cases e : j = k
            · rw [e]; exact HE.out
            · exact HNO.out j (by omega) hjl
          case measure => simp [intOf]; omega
        · have HE := Lib.hid (show (8 : Int) = r by rw [← HV.out, ckM_of HA.out (fun j hj => HNO.out j hj (by omega)) hlt (by rw [HM.out, if_pos (of_decide_eq_true h1)]; decide), HM.out, if_pos (of_decide_eq_true h1)])
          go_wp2_with fail
          go_quiet (fail)
          go_wp2_with fail
          go_ret
          exact ⟨ret_int HE.out, below_drewN HB.out _⟩
      · have HE := Lib.hid (show (0 : Int) = r by rw [← HV.out, ckM_end HA.out (fun j hj => HNO.out j (by omega) hj)])
        go_wp2_with fail
        go_ret
        exact ⟨ret_int HE.out, HB.out⟩
  · have HA := Lib.hid ha
    have HE := Lib.hid (show (2 : Int) = r by rw [← hv, ckM_any ha])
    clear ha hv hr
    go_enter Tryz.func47, Tryz.ntmps47
    go_wp2_with (go_at_call 72; refine (cont_d A c l true _ (by omega) HR.out HA.out).mono ?_; rintro e w1 ⟨rfl, hb1⟩; have HB1 := Lib.hid hb1; clear hb1)
    go_ret
    exact ⟨ret_int HE.out, HB1.out⟩
end Go.Proofs.YtpninpohligomaaGreatDoor
