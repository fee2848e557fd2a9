/-
  Chapter 54: windows: errors, open.
-/
import Derived.Test.YtpninpohligomaaGreatDoorLast54
set_option linter.unusedSimpArgs false
set_option linter.unusedVariables false
namespace Go.Proofs.YtpninpohligomaaGreatDoor
open Go.RowKit
set_option maxRecDepth 100000
set_option maxHeartbeats 1000000
theorem wn_cells {w : World} {b off k : Nat} {y : Wn} (h : ∀ j u, (wnE y)[j]? = some u → w.cell? ⟨b, off + k * 2 + j, none⟩ = some u) : w.cell? ⟨b, off + k * 2, none⟩ = some (.int .i64 y.f) ∧ w.cell? ⟨b, off + k * 2 + 1, none⟩ = some (.int .i64 y.t) :=
  ⟨by simpa using h 0 _ rfl, h 1 _ rfl⟩
def inW (x : Wn) (d : Int) : Bool := decide (x.f ≤ d) && decide (d ≤ x.t)
theorem open_lit (x : Wn) (d : Int) (g : Nat) (v : Bool) (w : World) (hg : w.cell? ⟨g, 2, none⟩ = some (.int .i64 d)) (hgl : g < w.heap.size) (hv : inW x d = v) :
    Calls Tryz.prog 67 #[.agg #[.int .i64 x.f, .int .i64 x.t], .pointer (some ⟨g, 0, none⟩)] w fun e w' => e = .returned (.bool v) ∧ Below w.heap.size w w' := by
  have HV := Lib.hid hv
  clear hv
  go_enter Tryz.func67, Tryz.ntmps67
  go_wp2_with fail
  all_goals
    go_ret
    exact ⟨ret_bool (by rw [← HV.out]; simp [inW] <;> omega), cur_new w _⟩
theorem openW_none {l : List Wn} {d : Int} (h : ∀ j x, j < l.length → l[j]? = some x → inW x d = false) : openW l d = false := by
  unfold openW
  rw [List.any_eq_false]
  intro x hx
  obtain ⟨j, hj, rfl⟩ := List.getElem_of_mem hx
  have := h j _ hj (List.getElem?_eq_getElem hj)
  unfold inW at this
  simp [this]
theorem openW_some {l : List Wn} {d : Int} {k : Nat} {x : Wn} (h : l[k]? = some x) (hx : inW x d = true) : openW l d = true := by
  unfold openW
  rw [List.any_eq_true]
  exact ⟨x, List.mem_of_getElem? h, hx⟩
def IdxW (w : World) (l : List Wn) (d : Int) (i : Value) (wr : World) : Prop := ∃ k : Nat, k ≤ l.length ∧ i = .int .i64 k ∧ (∀ j x, j < k → l[j]? = some x → inW x d = false) ∧ Below w.heap.size w wr
theorem idx_w (A : Option Addr) (c : Nat) (l : List Wn) (d : Int) (g : Nat) (v : Bool) (w : World) (hl : l.length ≤ 1000000) (hr : Rd wnE 2 w w.heap.size A l) (hg : w.cell? ⟨g, 2, none⟩ = some (.int .i64 d)) (hgl : g < w.heap.size) (hv : openW l d = v) :
    Calls Tryz.prog 87 #[.slice A l.length c, .func (.func 67) #[] #[.pointer (some ⟨g, 0, none⟩)]] w fun e w' => ∃ r, e = .returned (.int .i64 r) ∧ decide (0 ≤ r) = v ∧ Below w.heap.size w w' := by
  have HV := Lib.hid hv
  have HR := Lib.hid hr
  clear hr hv
  go_enter Tryz.func87, Tryz.ntmps87
  go_wp2
  go_loopw [8] (IdxW w l d) (fun i _ => l.length - (intOf i).toNat)
  case atStart => exact ⟨0, by simp, rfl, by intro j x h; omega, Below.refl _ _⟩
  case round =>
    obtain ⟨k, hk, rfl, hno, hB⟩ := hrel
    have HNO := Lib.hid hno
    have HB := Lib.hid hB
    clear hno hB
    by_cases hlt2 : k < l.length
    · obtain ⟨x, hx⟩ : ∃ x, l[k]? = some x := ⟨_, List.getElem?_eq_getElem hlt2⟩
      obtain ⟨b, off, rfl, hbb, hcl⟩ := HR.out.at_ HB.out hx
      obtain ⟨c0, c1⟩ := wn_cells hcl
      have HX := Lib.hid hx
      have hgw : wr.cell? ⟨g, 2, none⟩ = some (.int .i64 d) := (HB.out.cell (p := ⟨g, 2, none⟩) hgl).trans hg
      have hgl2 : g < wr.heap.size := by have := HB.out.size; omega
      clear hcl hx
      cases hi : inW x d
      · have HI := Lib.hid hi
        clear hi
        go_wp2_with (go_at_call 67; refine (open_lit x d g _ _ hgw hgl2 HI.out).mono ?_; rintro e w1 ⟨rfl, hb1⟩)
        go_roundw
        case rel =>
          refine ⟨k + 1, hlt2, by simp, fun j y hj hy => ?_, cur_step1 HB.out hb1⟩
          by_cases e : j = k
          · subst e
            rw [HX.out] at hy
            injection hy with hy
            rw [← hy]; exact HI.out
          · exact HNO.out j y (by omega) hy
        case measure => simp [intOf]; omega
      · have HI := Lib.hid hi
        clear hi
        go_wp2_with (go_at_call 67; refine (open_lit x d g _ _ hgw hgl2 HI.out).mono ?_; rintro e w1 ⟨rfl, hb1⟩)
        go_ret
        exact ⟨_, rfl, by rw [← HV.out, openW_some HX.out HI.out]; simp, cur_step1 HB.out hb1⟩
    · have hke : k = l.length := by omega
      go_wp2
      go_ret
      exact ⟨_, rfl, by rw [← HV.out, openW_none (by rw [← hke]; exact HNO.out)]; simp, HB.out⟩
theorem cont_w (A : Option Addr) (c : Nat) (l : List Wn) (d : Int) (g : Nat) (v : Bool) (w : World) (hl : l.length ≤ 1000000) (hr : Rd wnE 2 w w.heap.size A l) (hg : w.cell? ⟨g, 2, none⟩ = some (.int .i64 d)) (hgl : g < w.heap.size) (hv : openW l d = v) :
    Calls Tryz.prog 66 #[.slice A l.length c, .func (.func 67) #[] #[.pointer (some ⟨g, 0, none⟩)]] w fun e w' => e = .returned (.bool v) ∧ Below w.heap.size w w' := by
  have HV := Lib.hid hv
  have HR := Lib.hid hr
  clear hr hv
  go_enter Tryz.func66, Tryz.ntmps66
  go_wp2_with (go_at_call 87; refine (idx_w A c l d g v w hl HR.out hg hgl HV.out).mono ?_; rintro e w1 ⟨r, rfl, hdec, hb1⟩; have HD := Lib.hid hdec; clear hdec)
  go_ret
  exact ⟨ret_bool HD.out, hb1⟩
theorem open_r (A : Option Addr) (c : Nat) (l : List Wn) (d : Int) (v : Bool) (w : World) (hl : l.length ≤ 1000000) (hr : Rd wnE 2 w w.heap.size A l) (hv : openW l d = v) :
    Calls Tryz.prog 71 #[.slice A l.length c, .int .i64 d] w fun e w' => e = .returned (.bool v) ∧ Below w.heap.size w w' := by
  have HV := Lib.hid hv
  have HR := Lib.hid hr
  clear hr hv
  go_enter Tryz.func71, Tryz.ntmps71
  go_wp2
  go_loopw [9] (IdxW w l d) (fun i _ => l.length - (intOf i).toNat)
  case atStart => exact ⟨0, by simp, rfl, by intro j x h; omega, Below.refl _ _⟩
  case round =>
    obtain ⟨k, hk, rfl, hno, hB⟩ := hrel
    have HNO := Lib.hid hno
    have HB := Lib.hid hB
    clear hno hB
    by_cases hlt2 : k < l.length
    · obtain ⟨x, hx⟩ : ∃ x, l[k]? = some x := ⟨_, List.getElem?_eq_getElem hlt2⟩
      obtain ⟨b, off, rfl, hbb, hcl⟩ := HR.out.at_ HB.out hx
      obtain ⟨c0, c1⟩ := wn_cells hcl
      have HX := Lib.hid hx
      clear hcl hx
      go_wp2_with fail
      all_goals first
        | (go_ret
           exact ⟨ret_bool (by rw [← HV.out, openW_some HX.out (by simp [inW] <;> omega)]), by first | exact HB.out | exact cur_step1 HB.out (cur_new _ _)⟩)
        | (go_roundw
           case rel =>
             refine ⟨k + 1, hlt2, by simp, fun j y hj hy => ?_, by first | exact HB.out | exact cur_step1 HB.out (cur_new _ _)⟩
             by_cases e : j = k
             · subst e
               rw [HX.out] at hy
               injection hy with hy
               rw [← hy]; simp [inW] <;> omega
             · exact HNO.out j y (by omega) hy
           case measure => simp [intOf]; omega)
    · have hke : k = l.length := by omega
      go_wp2
      go_ret
      exact ⟨ret_bool (by rw [← HV.out, openW_none (by rw [← hke]; exact HNO.out)]), HB.out⟩
end Go.Proofs.YtpninpohligomaaGreatDoor
