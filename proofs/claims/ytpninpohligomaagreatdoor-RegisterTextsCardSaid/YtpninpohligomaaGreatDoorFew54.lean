/-
  Chapter 54: the law's own small functions.
-/
import Derived.Test.YtpninpohligomaaGreatDoorAwk54
import Derived.Test.YtpninpohligomaaGreatDoorCkR54
import Derived.Test.YtpninpohligomaaGreatDoorApp
import Derived.Test.YtpninpohligomaaGreatDoorStr
set_option linter.unusedSimpArgs false
set_option linter.unusedVariables false
namespace Go.Proofs.YtpninpohligomaaGreatDoor
open Go.RowKit
set_option maxRecDepth 100000
set_option maxHeartbeats 1000000
theorem list_f (A : Option Addr) (c n : Nat) (w : World) (hn : n ≤ 9223372036854775807) (hc : n ≤ c) :
    Calls Tryz.prog 42 #[.slice A n c] w fun e w' => e = .returned (.slice A (min n 16) c) ∧ Below w.heap.size w w' := by
  by_cases h : n ≤ 16
  · rw [Nat.min_eq_left h]
    go_enter Tryz.func42, Tryz.ntmps42
    go_wp2_with fail
    all_goals go_wp2_with fail
    all_goals
      go_ret
      exact ⟨rfl, Below.refl _ _⟩
  · rw [Nat.min_eq_right (by omega)]
    go_enter Tryz.func42, Tryz.ntmps42
    go_wp2_with fail
    all_goals go_wp2_with fail
    all_goals
      go_ret
      exact ⟨rfl, Below.refl _ _⟩
theorem few_f (WA A : Option Addr) (wc wn c n : Nat) (w : World) (hn : n ≤ 9223372036854775807) (hc : n ≤ c) (hwn : wn ≤ 9223372036854775807) (hwc : wn ≤ wc) :
    Calls Tryz.prog 15 #[.agg #[.slice WA wn wc, .slice A n c]] w fun e w' => e = .returned (.agg #[.slice WA (min wn 6) wc, .slice A (min n 16) c]) ∧ Below w.heap.size w w' := by
  have HM := Lib.hid (list_f A c n)
  obtain ⟨n', hn'⟩ : ∃ n', min n 16 = n' := ⟨_, rfl⟩
  rw [hn'] at HM ⊢
  clear hn'
  obtain ⟨ha, hb, hb0⟩ := entry2 w [.slice WA wn wc, .slice A n c] [.slice none 0 0, .slice none 0 0] 38 38
  rcases (by omega : wn = 0 ∨ wn = 1 ∨ wn = 2 ∨ wn = 3 ∨ wn = 4 ∨ wn = 5 ∨ wn = 6 ∨ 6 < wn) with rfl | rfl | rfl | rfl | rfl | rfl | rfl | h
  · have q2 : (0 : Int) ≤ (wc : Int) := by omega
    go_enter Tryz.func15, Tryz.ntmps15
    go_wp2_with fail
    generalize (w.alloc (Obj.cells #[.slice WA 0 wc, .slice A n c] 38)).alloc (Obj.cells #[.slice none 0 0, .slice none 0 0] 38) = w2 at ha hb hb0 ⊢
    have c0 : w2.cell? ⟨w.heap.size, 0, none⟩ = some (.slice WA 0 wc) := ha.cell 0
    have c1 : w2.cell? ⟨w.heap.size, 1, none⟩ = some (.slice A n c) := ha.cell 1
    have HR := Lib.hid hb
    have HB := Lib.hid hb0
    have l1 : w.heap.size < w2.heap.size := ha.lt
    clear ha hb hb0
    go_region_held3 (fun w' => w'.cell? ⟨w.heap.size, 0, none⟩ = some (.slice WA 0 wc) ∧ w'.cell? ⟨w.heap.size, 1, none⟩ = some (.slice A n c))
      (first
        | (go_keep; done)
        | (go_split_ands; refine ⟨?_, ?_⟩ <;> (rw [hb4.cell (by simp; omega)]; first | assumption | (go_keep; done)))
        | (go_split_ands; refine ⟨?_, ?_⟩ <;> assumption))
      ((go_at_call 42; refine (HM.out _ hn hc).mono ?_; rintro e w4 ⟨rfl, hb4⟩; have hr4 := Blk.to (w := w2) HR.out (((Below.refl _ _).drew).trans hb4); have z0 : w4.cell? ⟨w.heap.size + 1, 0, none⟩ = some (.slice none 0 0) := hr4.cell 0; have z1 : w4.cell? ⟨w.heap.size + 1, 1, none⟩ = some (.slice none 0 0) := hr4.cell 1; have f0 := hr4.frozen 0; have f1 := hr4.frozen 1; have hs4 := hr4.set 0 (.slice WA 0 wc); have y1 : (w4.setCell ⟨w.heap.size + 1, 0, none⟩ (.slice WA 0 wc)).cell? ⟨w.heap.size + 1, 1, none⟩ = some (.slice none 0 0) := hs4.cell 1; have g1 := hs4.frozen 1; have HS4 := Lib.hid hs4; clear hs4 hr4))
    go_wp2_with fail
    all_goals
      refine ret_cell (g := w.heap.size + 1) (xs := [.slice WA 0 wc, .slice A n' c]) rfl rfl (HS4.out.set 1 (.slice A n' c)) Tryz.underlying38 rfl (by kernel_rfl) rfl ?_
      have hb5 : Below w.heap.size w w4 := HB.out.drew.trans (hb4.mono (by have := HB.out.size; exact this))
      exact ⟨rfl, below_set (below_set hb5 (by omega) _ _) (by omega) _ _⟩
  · have q2 : (1 : Int) ≤ (wc : Int) := by omega
    go_enter Tryz.func15, Tryz.ntmps15
    go_wp2_with fail
    generalize (w.alloc (Obj.cells #[.slice WA 1 wc, .slice A n c] 38)).alloc (Obj.cells #[.slice none 0 0, .slice none 0 0] 38) = w2 at ha hb hb0 ⊢
    have c0 : w2.cell? ⟨w.heap.size, 0, none⟩ = some (.slice WA 1 wc) := ha.cell 0
    have c1 : w2.cell? ⟨w.heap.size, 1, none⟩ = some (.slice A n c) := ha.cell 1
    have HR := Lib.hid hb
    have HB := Lib.hid hb0
    have l1 : w.heap.size < w2.heap.size := ha.lt
    clear ha hb hb0
    go_region_held3 (fun w' => w'.cell? ⟨w.heap.size, 0, none⟩ = some (.slice WA 1 wc) ∧ w'.cell? ⟨w.heap.size, 1, none⟩ = some (.slice A n c))
      (first
        | (go_keep; done)
        | (go_split_ands; refine ⟨?_, ?_⟩ <;> (rw [hb4.cell (by simp; omega)]; first | assumption | (go_keep; done)))
        | (go_split_ands; refine ⟨?_, ?_⟩ <;> assumption))
      ((go_at_call 42; refine (HM.out _ hn hc).mono ?_; rintro e w4 ⟨rfl, hb4⟩; have hr4 := Blk.to (w := w2) HR.out (((Below.refl _ _).drew).trans hb4); have z0 : w4.cell? ⟨w.heap.size + 1, 0, none⟩ = some (.slice none 0 0) := hr4.cell 0; have z1 : w4.cell? ⟨w.heap.size + 1, 1, none⟩ = some (.slice none 0 0) := hr4.cell 1; have f0 := hr4.frozen 0; have f1 := hr4.frozen 1; have hs4 := hr4.set 0 (.slice WA 1 wc); have y1 : (w4.setCell ⟨w.heap.size + 1, 0, none⟩ (.slice WA 1 wc)).cell? ⟨w.heap.size + 1, 1, none⟩ = some (.slice none 0 0) := hs4.cell 1; have g1 := hs4.frozen 1; have HS4 := Lib.hid hs4; clear hs4 hr4))
    go_wp2_with fail
    all_goals
      refine ret_cell (g := w.heap.size + 1) (xs := [.slice WA 1 wc, .slice A n' c]) rfl rfl (HS4.out.set 1 (.slice A n' c)) Tryz.underlying38 rfl (by kernel_rfl) rfl ?_
      have hb5 : Below w.heap.size w w4 := HB.out.drew.trans (hb4.mono (by have := HB.out.size; exact this))
      exact ⟨rfl, below_set (below_set hb5 (by omega) _ _) (by omega) _ _⟩
  · have q2 : (2 : Int) ≤ (wc : Int) := by omega
    go_enter Tryz.func15, Tryz.ntmps15
    go_wp2_with fail
    generalize (w.alloc (Obj.cells #[.slice WA 2 wc, .slice A n c] 38)).alloc (Obj.cells #[.slice none 0 0, .slice none 0 0] 38) = w2 at ha hb hb0 ⊢
    have c0 : w2.cell? ⟨w.heap.size, 0, none⟩ = some (.slice WA 2 wc) := ha.cell 0
    have c1 : w2.cell? ⟨w.heap.size, 1, none⟩ = some (.slice A n c) := ha.cell 1
    have HR := Lib.hid hb
    have HB := Lib.hid hb0
    have l1 : w.heap.size < w2.heap.size := ha.lt
    clear ha hb hb0
    go_region_held3 (fun w' => w'.cell? ⟨w.heap.size, 0, none⟩ = some (.slice WA 2 wc) ∧ w'.cell? ⟨w.heap.size, 1, none⟩ = some (.slice A n c))
      (first
        | (go_keep; done)
        | (go_split_ands; refine ⟨?_, ?_⟩ <;> (rw [hb4.cell (by simp; omega)]; first | assumption | (go_keep; done)))
        | (go_split_ands; refine ⟨?_, ?_⟩ <;> assumption))
      ((go_at_call 42; refine (HM.out _ hn hc).mono ?_; rintro e w4 ⟨rfl, hb4⟩; have hr4 := Blk.to (w := w2) HR.out (((Below.refl _ _).drew).trans hb4); have z0 : w4.cell? ⟨w.heap.size + 1, 0, none⟩ = some (.slice none 0 0) := hr4.cell 0; have z1 : w4.cell? ⟨w.heap.size + 1, 1, none⟩ = some (.slice none 0 0) := hr4.cell 1; have f0 := hr4.frozen 0; have f1 := hr4.frozen 1; have hs4 := hr4.set 0 (.slice WA 2 wc); have y1 : (w4.setCell ⟨w.heap.size + 1, 0, none⟩ (.slice WA 2 wc)).cell? ⟨w.heap.size + 1, 1, none⟩ = some (.slice none 0 0) := hs4.cell 1; have g1 := hs4.frozen 1; have HS4 := Lib.hid hs4; clear hs4 hr4))
    go_wp2_with fail
    all_goals
      refine ret_cell (g := w.heap.size + 1) (xs := [.slice WA 2 wc, .slice A n' c]) rfl rfl (HS4.out.set 1 (.slice A n' c)) Tryz.underlying38 rfl (by kernel_rfl) rfl ?_
      have hb5 : Below w.heap.size w w4 := HB.out.drew.trans (hb4.mono (by have := HB.out.size; exact this))
      exact ⟨rfl, below_set (below_set hb5 (by omega) _ _) (by omega) _ _⟩
  · have q2 : (3 : Int) ≤ (wc : Int) := by omega
    go_enter Tryz.func15, Tryz.ntmps15
    go_wp2_with fail
    generalize (w.alloc (Obj.cells #[.slice WA 3 wc, .slice A n c] 38)).alloc (Obj.cells #[.slice none 0 0, .slice none 0 0] 38) = w2 at ha hb hb0 ⊢
    have c0 : w2.cell? ⟨w.heap.size, 0, none⟩ = some (.slice WA 3 wc) := ha.cell 0
    have c1 : w2.cell? ⟨w.heap.size, 1, none⟩ = some (.slice A n c) := ha.cell 1
    have HR := Lib.hid hb
    have HB := Lib.hid hb0
    have l1 : w.heap.size < w2.heap.size := ha.lt
    clear ha hb hb0
    go_region_held3 (fun w' => w'.cell? ⟨w.heap.size, 0, none⟩ = some (.slice WA 3 wc) ∧ w'.cell? ⟨w.heap.size, 1, none⟩ = some (.slice A n c))
      (first
        | (go_keep; done)
        | (go_split_ands; refine ⟨?_, ?_⟩ <;> (rw [hb4.cell (by simp; omega)]; first | assumption | (go_keep; done)))
        | (go_split_ands; refine ⟨?_, ?_⟩ <;> assumption))
      ((go_at_call 42; refine (HM.out _ hn hc).mono ?_; rintro e w4 ⟨rfl, hb4⟩; have hr4 := Blk.to (w := w2) HR.out (((Below.refl _ _).drew).trans hb4); have z0 : w4.cell? ⟨w.heap.size + 1, 0, none⟩ = some (.slice none 0 0) := hr4.cell 0; have z1 : w4.cell? ⟨w.heap.size + 1, 1, none⟩ = some (.slice none 0 0) := hr4.cell 1; have f0 := hr4.frozen 0; have f1 := hr4.frozen 1; have hs4 := hr4.set 0 (.slice WA 3 wc); have y1 : (w4.setCell ⟨w.heap.size + 1, 0, none⟩ (.slice WA 3 wc)).cell? ⟨w.heap.size + 1, 1, none⟩ = some (.slice none 0 0) := hs4.cell 1; have g1 := hs4.frozen 1; have HS4 := Lib.hid hs4; clear hs4 hr4))
    go_wp2_with fail
    all_goals
      refine ret_cell (g := w.heap.size + 1) (xs := [.slice WA 3 wc, .slice A n' c]) rfl rfl (HS4.out.set 1 (.slice A n' c)) Tryz.underlying38 rfl (by kernel_rfl) rfl ?_
      have hb5 : Below w.heap.size w w4 := HB.out.drew.trans (hb4.mono (by have := HB.out.size; exact this))
      exact ⟨rfl, below_set (below_set hb5 (by omega) _ _) (by omega) _ _⟩
  · have q2 : (4 : Int) ≤ (wc : Int) := by omega
    go_enter Tryz.func15, Tryz.ntmps15
    go_wp2_with fail
    generalize (w.alloc (Obj.cells #[.slice WA 4 wc, .slice A n c] 38)).alloc (Obj.cells #[.slice none 0 0, .slice none 0 0] 38) = w2 at ha hb hb0 ⊢
    have c0 : w2.cell? ⟨w.heap.size, 0, none⟩ = some (.slice WA 4 wc) := ha.cell 0
    have c1 : w2.cell? ⟨w.heap.size, 1, none⟩ = some (.slice A n c) := ha.cell 1
    have HR := Lib.hid hb
    have HB := Lib.hid hb0
    have l1 : w.heap.size < w2.heap.size := ha.lt
    clear ha hb hb0
    go_region_held3 (fun w' => w'.cell? ⟨w.heap.size, 0, none⟩ = some (.slice WA 4 wc) ∧ w'.cell? ⟨w.heap.size, 1, none⟩ = some (.slice A n c))
      (first
        | (go_keep; done)
        | (go_split_ands; refine ⟨?_, ?_⟩ <;> (rw [hb4.cell (by simp; omega)]; first | assumption | (go_keep; done)))
        | (go_split_ands; refine ⟨?_, ?_⟩ <;> assumption))
      ((go_at_call 42; refine (HM.out _ hn hc).mono ?_; rintro e w4 ⟨rfl, hb4⟩; have hr4 := Blk.to (w := w2) HR.out (((Below.refl _ _).drew).trans hb4); have z0 : w4.cell? ⟨w.heap.size + 1, 0, none⟩ = some (.slice none 0 0) := hr4.cell 0; have z1 : w4.cell? ⟨w.heap.size + 1, 1, none⟩ = some (.slice none 0 0) := hr4.cell 1; have f0 := hr4.frozen 0; have f1 := hr4.frozen 1; have hs4 := hr4.set 0 (.slice WA 4 wc); have y1 : (w4.setCell ⟨w.heap.size + 1, 0, none⟩ (.slice WA 4 wc)).cell? ⟨w.heap.size + 1, 1, none⟩ = some (.slice none 0 0) := hs4.cell 1; have g1 := hs4.frozen 1; have HS4 := Lib.hid hs4; clear hs4 hr4))
    go_wp2_with fail
    all_goals
      refine ret_cell (g := w.heap.size + 1) (xs := [.slice WA 4 wc, .slice A n' c]) rfl rfl (HS4.out.set 1 (.slice A n' c)) Tryz.underlying38 rfl (by kernel_rfl) rfl ?_
      have hb5 : Below w.heap.size w w4 := HB.out.drew.trans (hb4.mono (by have := HB.out.size; exact this))
      exact ⟨rfl, below_set (below_set hb5 (by omega) _ _) (by omega) _ _⟩
  · have q2 : (5 : Int) ≤ (wc : Int) := by omega
    go_enter Tryz.func15, Tryz.ntmps15
    go_wp2_with fail
    generalize (w.alloc (Obj.cells #[.slice WA 5 wc, .slice A n c] 38)).alloc (Obj.cells #[.slice none 0 0, .slice none 0 0] 38) = w2 at ha hb hb0 ⊢
    have c0 : w2.cell? ⟨w.heap.size, 0, none⟩ = some (.slice WA 5 wc) := ha.cell 0
    have c1 : w2.cell? ⟨w.heap.size, 1, none⟩ = some (.slice A n c) := ha.cell 1
    have HR := Lib.hid hb
    have HB := Lib.hid hb0
    have l1 : w.heap.size < w2.heap.size := ha.lt
    clear ha hb hb0
    go_region_held3 (fun w' => w'.cell? ⟨w.heap.size, 0, none⟩ = some (.slice WA 5 wc) ∧ w'.cell? ⟨w.heap.size, 1, none⟩ = some (.slice A n c))
      (first
        | (go_keep; done)
        | (go_split_ands; refine ⟨?_, ?_⟩ <;> (rw [hb4.cell (by simp; omega)]; first | assumption | (go_keep; done)))
        | (go_split_ands; refine ⟨?_, ?_⟩ <;> assumption))
      ((go_at_call 42; refine (HM.out _ hn hc).mono ?_; rintro e w4 ⟨rfl, hb4⟩; have hr4 := Blk.to (w := w2) HR.out (((Below.refl _ _).drew).trans hb4); have z0 : w4.cell? ⟨w.heap.size + 1, 0, none⟩ = some (.slice none 0 0) := hr4.cell 0; have z1 : w4.cell? ⟨w.heap.size + 1, 1, none⟩ = some (.slice none 0 0) := hr4.cell 1; have f0 := hr4.frozen 0; have f1 := hr4.frozen 1; have hs4 := hr4.set 0 (.slice WA 5 wc); have y1 : (w4.setCell ⟨w.heap.size + 1, 0, none⟩ (.slice WA 5 wc)).cell? ⟨w.heap.size + 1, 1, none⟩ = some (.slice none 0 0) := hs4.cell 1; have g1 := hs4.frozen 1; have HS4 := Lib.hid hs4; clear hs4 hr4))
    go_wp2_with fail
    all_goals
      refine ret_cell (g := w.heap.size + 1) (xs := [.slice WA 5 wc, .slice A n' c]) rfl rfl (HS4.out.set 1 (.slice A n' c)) Tryz.underlying38 rfl (by kernel_rfl) rfl ?_
      have hb5 : Below w.heap.size w w4 := HB.out.drew.trans (hb4.mono (by have := HB.out.size; exact this))
      exact ⟨rfl, below_set (below_set hb5 (by omega) _ _) (by omega) _ _⟩
  · have q2 : (6 : Int) ≤ (wc : Int) := by omega
    go_enter Tryz.func15, Tryz.ntmps15
    go_wp2_with fail
    generalize (w.alloc (Obj.cells #[.slice WA 6 wc, .slice A n c] 38)).alloc (Obj.cells #[.slice none 0 0, .slice none 0 0] 38) = w2 at ha hb hb0 ⊢
    have c0 : w2.cell? ⟨w.heap.size, 0, none⟩ = some (.slice WA 6 wc) := ha.cell 0
    have c1 : w2.cell? ⟨w.heap.size, 1, none⟩ = some (.slice A n c) := ha.cell 1
    have HR := Lib.hid hb
    have HB := Lib.hid hb0
    have l1 : w.heap.size < w2.heap.size := ha.lt
    clear ha hb hb0
    go_region_held3 (fun w' => w'.cell? ⟨w.heap.size, 0, none⟩ = some (.slice WA 6 wc) ∧ w'.cell? ⟨w.heap.size, 1, none⟩ = some (.slice A n c))
      (first
        | (go_keep; done)
        | (go_split_ands; refine ⟨?_, ?_⟩ <;> (rw [hb4.cell (by simp; omega)]; first | assumption | (go_keep; done)))
        | (go_split_ands; refine ⟨?_, ?_⟩ <;> assumption))
      ((go_at_call 42; refine (HM.out _ hn hc).mono ?_; rintro e w4 ⟨rfl, hb4⟩; have hr4 := Blk.to (w := w2) HR.out (((Below.refl _ _).drew).trans hb4); have z0 : w4.cell? ⟨w.heap.size + 1, 0, none⟩ = some (.slice none 0 0) := hr4.cell 0; have z1 : w4.cell? ⟨w.heap.size + 1, 1, none⟩ = some (.slice none 0 0) := hr4.cell 1; have f0 := hr4.frozen 0; have f1 := hr4.frozen 1; have hs4 := hr4.set 0 (.slice WA 6 wc); have y1 : (w4.setCell ⟨w.heap.size + 1, 0, none⟩ (.slice WA 6 wc)).cell? ⟨w.heap.size + 1, 1, none⟩ = some (.slice none 0 0) := hs4.cell 1; have g1 := hs4.frozen 1; have HS4 := Lib.hid hs4; clear hs4 hr4))
    go_wp2_with fail
    all_goals
      refine ret_cell (g := w.heap.size + 1) (xs := [.slice WA 6 wc, .slice A n' c]) rfl rfl (HS4.out.set 1 (.slice A n' c)) Tryz.underlying38 rfl (by kernel_rfl) rfl ?_
      have hb5 : Below w.heap.size w w4 := HB.out.drew.trans (hb4.mono (by have := HB.out.size; exact this))
      exact ⟨rfl, below_set (below_set hb5 (by omega) _ _) (by omega) _ _⟩
  · rw [Nat.min_eq_right (by omega)]
    have hm : min (wn : Int) 6 = 6 := by omega
    have q1 : (0 : Int) ≤ (6 : Int) := by omega
    have q2 : (6 : Int) ≤ (wc : Int) := by omega
    have q3 : (6 : Int) < (wn : Int) := by omega
    go_enter Tryz.func15, Tryz.ntmps15
    go_wp2_with fail
    generalize (w.alloc (Obj.cells #[.slice WA wn wc, .slice A n c] 38)).alloc (Obj.cells #[.slice none 0 0, .slice none 0 0] 38) = w2 at ha hb hb0 ⊢
    have c0 : w2.cell? ⟨w.heap.size, 0, none⟩ = some (.slice WA wn wc) := ha.cell 0
    have c1 : w2.cell? ⟨w.heap.size, 1, none⟩ = some (.slice A n c) := ha.cell 1
    have HR := Lib.hid hb
    have HB := Lib.hid hb0
    have l1 : w.heap.size < w2.heap.size := ha.lt
    clear ha hb hb0
    go_region_held3 (fun w' => w'.cell? ⟨w.heap.size, 0, none⟩ = some (.slice WA wn wc) ∧ w'.cell? ⟨w.heap.size, 1, none⟩ = some (.slice A n c))
      (first
        | (go_keep; done)
        | (go_split_ands; refine ⟨?_, ?_⟩ <;> (rw [hb4.cell (by simp; omega)]; first | assumption | (go_keep; done)))
        | (go_split_ands; refine ⟨?_, ?_⟩ <;> assumption))
      ((go_at_call 42; refine (HM.out _ hn hc).mono ?_; rintro e w4 ⟨rfl, hb4⟩; have hr4 := Blk.to (w := w2) HR.out (((Below.refl _ _).drew).trans hb4); have z0 : w4.cell? ⟨w.heap.size + 1, 0, none⟩ = some (.slice none 0 0) := hr4.cell 0; have z1 : w4.cell? ⟨w.heap.size + 1, 1, none⟩ = some (.slice none 0 0) := hr4.cell 1; have f0 := hr4.frozen 0; have f1 := hr4.frozen 1; have hs4 := hr4.set 0 (.slice WA 6 wc); have y1 : (w4.setCell ⟨w.heap.size + 1, 0, none⟩ (.slice WA 6 wc)).cell? ⟨w.heap.size + 1, 1, none⟩ = some (.slice none 0 0) := hs4.cell 1; have g1 := hs4.frozen 1; have HS4 := Lib.hid hs4; clear hs4 hr4))
    go_wp2_with fail
    all_goals
      refine ret_cell (g := w.heap.size + 1) (xs := [.slice WA 6 wc, .slice A n' c]) rfl rfl (HS4.out.set 1 (.slice A n' c)) Tryz.underlying38 rfl (by kernel_rfl) rfl ?_
      have hb5 : Below w.heap.size w w4 := HB.out.drew.trans (hb4.mono (by have := HB.out.size; exact this))
      exact ⟨rfl, below_set (below_set hb5 (by omega) _ _) (by omega) _ _⟩
end Go.Proofs.YtpninpohligomaaGreatDoor
