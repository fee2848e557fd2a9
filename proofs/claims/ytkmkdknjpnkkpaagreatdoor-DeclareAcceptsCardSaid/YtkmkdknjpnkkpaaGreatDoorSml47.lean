/-
  Chapter 47: Small of the law.
-/
import Derived.Test.YtkmkdknjpnkkpaaGreatDoorCkT47
set_option linter.unusedSimpArgs false
set_option linter.unusedVariables false
namespace Go.Proofs.YtkmkdknjpnkkpaaGreatDoor
open Go.RowKit
set_option maxRecDepth 100000
set_option maxHeartbeats 1000000
def smB (t : Tk) : Bool := decide (t.win.length ≤ 100) && decide (t.d.length ≤ 100) && t.win.all fun l => decide (l.length ≤ 200)
theorem sm_of {t : Tk} (h : smB t = true) : Sm t := by
  unfold smB at h
  simp at h
  exact ⟨h.1.2, h.1.1, h.2⟩
def SmR (t : Tk) (w : World) (i : Value) (wr : World) : Prop := ∃ k : Nat, k ≤ t.win.length ∧ i = .int .i64 k ∧ (∀ j l, j < k → t.win[j]? = some l → l.length ≤ 200) ∧ Below w.heap.size w wr
theorem small_f (t : Tk) (A W : Option Addr) (c wc : Nat) (v : Bool) (w : World) (hw : Rd2 w w.heap.size W t.win) (hv : smB t = v) :
    Calls Tryz.prog 8 #[tkV t A W c wc] w fun e w' => e = .returned (.bool v) ∧ Below w.heap.size w w' := by
  have hb0 := cur_new w (.cells (tkL t A W c wc).toArray 25)
  unfold tkL at hb0
  have HW := Lib.hid hw
  have HV := Lib.hid hv
  clear hw hv
  by_cases h1 : 100 < t.win.length
  · have HV2 := Lib.hid (show false = v by rw [← HV.out]; unfold smB; simp; omega)
    have g1 : decide ((100 : Int) < t.win.length) = true := by simp; omega
    go_enter Tryz.func8, Tryz.ntmps8
    go_wp2_with fail
    go_ret
    exact ⟨ret_bool HV2.out, hb0⟩
  have g1 : decide ((100 : Int) < t.win.length) = false := by simp; omega
  by_cases h2 : 100 < t.d.length
  · have HV2 := Lib.hid (show false = v by rw [← HV.out]; unfold smB; simp; omega)
    have g2 : decide ((100 : Int) < t.d.length) = true := by simp; omega
    go_enter Tryz.func8, Tryz.ntmps8
    go_wp2_with fail
    go_ret
    exact ⟨ret_bool HV2.out, hb0⟩
  have g2 : decide ((100 : Int) < t.d.length) = false := by simp; omega
  have HB0 := Lib.hid hb0
  clear hb0
  go_enter Tryz.func8, Tryz.ntmps8
  go_wp2_with fail
  go_loopw [18] (SmR t w) (fun i _ => t.win.length - (intOf i).toNat)
  case atStart => exact ⟨0, by omega, rfl, by intro j l h; omega, HB0.out⟩
  case round =>
    obtain ⟨k, hk, rfl, hq, hb⟩ := hrel
    have HQ := Lib.hid hq
    have HB := Lib.hid hb
    clear hq hb
    by_cases hlt : k < t.win.length
    · obtain ⟨l, hl⟩ : ∃ l, t.win[k]? = some l := ⟨_, List.getElem?_eq_getElem hlt⟩
      obtain ⟨b, off, rfl, hbb, A', c', hcl0, _⟩ := HW.out k l hl
      have hcl := (HB.out.cell (p := ⟨b, off + k, none⟩) hbb).trans hcl0
      have HL := Lib.hid hl
      clear hcl0 hl
      by_cases h3 : 200 < l.length
      · have g3 : decide ((200 : Int) < l.length) = true := by simp; omega
        have HV2 := Lib.hid (show false = v by
          rw [← HV.out]
          unfold smB
          have : t.win.all (fun l => decide (l.length ≤ 200)) = false := by
            rw [List.all_eq_false]
            exact ⟨l, List.mem_of_getElem? HL.out, by simp; omega⟩
          rw [this, Bool.and_false])
        go_wp2_with fail
        go_ret
        exact ⟨ret_bool HV2.out, HB.out⟩
      · have g3 : decide ((200 : Int) < l.length) = false := by simp; omega
        go_wp2_with fail
        go_roundw
        case rel => exact ⟨k + 1, hlt, by simp, fun j l' hj hl' => by
          rcases Nat.lt_or_ge j k with h | h
          · exact HQ.out j l' h hl'
          · obtain rfl : j = k := by omega
            rw [HL.out] at hl'
            injection hl' with hl'
            subst hl'
            omega, HB.out⟩
        case measure => simp [intOf]; omega
    · have HV2 := Lib.hid (show true = v by
        rw [← HV.out]
        unfold smB
        have : t.win.all (fun l => decide (l.length ≤ 200)) = true := by
          rw [List.all_eq_true]
          intro l hl
          obtain ⟨j, hj, rfl⟩ := List.getElem_of_mem hl
          simp
          exact HQ.out j _ (by omega) (List.getElem?_eq_getElem hj)
        rw [this]
        simp
        omega)
      go_wp2_with fail
      go_ret
      exact ⟨ret_bool HV2.out, HB.out⟩
end Go.Proofs.YtkmkdknjpnkkpaaGreatDoor
