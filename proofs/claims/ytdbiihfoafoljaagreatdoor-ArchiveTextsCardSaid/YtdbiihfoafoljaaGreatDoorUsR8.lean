/-
  Chapter 8: Check of the reference: what a kind uses.
-/
import Derived.Test.YtdbiihfoafoljaaGreatDoorEvQ
set_option linter.unusedSimpArgs false
set_option linter.unusedVariables false
namespace Go.Proofs.YtdbiihfoafoljaaGreatDoor
open Go.RowKit
set_option maxRecDepth 100000
set_option maxHeartbeats 8000000
theorem in_r (n lo hi : Int) (v : Bool) (w : World) (hv : btw n lo hi = v) : Calls Tryz.prog 77 #[.int .i64 n, .int .i64 lo, .int .i64 hi] w fun e w' => e = .returned (.bool v) ∧ w = w' := by
  subst hv
  unfold btw
  by_cases h1 : lo ≤ n
  · by_cases h2 : n ≤ hi
    · go_enter Tryz.func77, Tryz.ntmps77
      go_wp2_with fail
      go_ret
      simp [h1, h2]
    · go_enter Tryz.func77, Tryz.ntmps77
      go_wp2_with fail
      go_ret
      simp [h1, h2]
  · go_enter Tryz.func77, Tryz.ntmps77
    go_wp2_with fail
    go_ret
    simp
    omega
theorem runs_r (k : Int) (w : World) : Calls Tryz.prog 76 #[.int .u8 k] w fun e w' => e = .returned (.tuple #[.int .i64 (loR k), .int .i64 (hiR k)]) ∧ w = w' := by
  unfold loR hiR
  by_cases h7 : k = 7
  · subst h7
    go_enter Tryz.func76, Tryz.ntmps76
    go_wp2_with fail
    go_ret2
    exact ⟨rfl, rfl⟩
  have g1 : (k == 7) = false := by simpa using h7
  by_cases h13 : k = 13
  · subst h13
    go_enter Tryz.func76, Tryz.ntmps76
    go_wp2_with fail
    go_ret2
    exact ⟨rfl, rfl⟩
  · have g2 : (k == 13) = false := by simpa using h13
    go_enter Tryz.func76, Tryz.ntmps76
    go_wp2_with fail
    go_ret2
    exact ⟨rfl, rfl⟩
theorem uses_r1 (w : World) : Calls Tryz.prog 75 #[.int .u8 1] w fun e w' => e = .returned (.tuple #[.agg #[.bool true, .bool false, .bool false, .bool true, .bool false, .bool false, .bool false], .bool true]) ∧ Below w.heap.size w w' := by
  have hb := Blk.new w 119 [.bool true, .bool false, .bool false, .bool true, .bool false, .bool false, .bool false]
  go_enter Tryz.func75, Tryz.ntmps75
  go_wp2_with fail
  refine ret_cell2 (g := w.heap.size) (e := 119) (xs := [.bool true, .bool false, .bool false, .bool true, .bool false, .bool false, .bool false]) rfl (by rfl) (by rfl) hb rfl (by rfl) (by rfl) rfl ?_
  exact ⟨rfl, cur_new _ _⟩
theorem uses_r2 (w : World) : Calls Tryz.prog 75 #[.int .u8 2] w fun e w' => e = .returned (.tuple #[.agg #[.bool false, .bool true, .bool true, .bool false, .bool false, .bool false, .bool false], .bool true]) ∧ Below w.heap.size w w' := by
  have hb := Blk.new w 119 [.bool false, .bool true, .bool true, .bool false, .bool false, .bool false, .bool false]
  go_enter Tryz.func75, Tryz.ntmps75
  go_wp2_with fail
  refine ret_cell2 (g := w.heap.size) (e := 119) (xs := [.bool false, .bool true, .bool true, .bool false, .bool false, .bool false, .bool false]) rfl (by rfl) (by rfl) hb rfl (by rfl) (by rfl) rfl ?_
  exact ⟨rfl, cur_new _ _⟩
theorem uses_r3 (w : World) : Calls Tryz.prog 75 #[.int .u8 3] w fun e w' => e = .returned (.tuple #[.agg #[.bool false, .bool true, .bool false, .bool false, .bool false, .bool false, .bool false], .bool true]) ∧ Below w.heap.size w w' := by
  have hb := Blk.new w 119 [.bool false, .bool true, .bool false, .bool false, .bool false, .bool false, .bool false]
  go_enter Tryz.func75, Tryz.ntmps75
  go_wp2_with fail
  refine ret_cell2 (g := w.heap.size) (e := 119) (xs := [.bool false, .bool true, .bool false, .bool false, .bool false, .bool false, .bool false]) rfl (by rfl) (by rfl) hb rfl (by rfl) (by rfl) rfl ?_
  exact ⟨rfl, cur_new _ _⟩
theorem uses_r4 (w : World) : Calls Tryz.prog 75 #[.int .u8 4] w fun e w' => e = .returned (.tuple #[.agg #[.bool false, .bool false, .bool false, .bool false, .bool false, .bool false, .bool true], .bool true]) ∧ Below w.heap.size w w' := by
  have hb := Blk.new w 119 [.bool false, .bool false, .bool false, .bool false, .bool false, .bool false, .bool true]
  go_enter Tryz.func75, Tryz.ntmps75
  go_wp2_with fail
  refine ret_cell2 (g := w.heap.size) (e := 119) (xs := [.bool false, .bool false, .bool false, .bool false, .bool false, .bool false, .bool true]) rfl (by rfl) (by rfl) hb rfl (by rfl) (by rfl) rfl ?_
  exact ⟨rfl, cur_new _ _⟩
theorem uses_r5 (w : World) : Calls Tryz.prog 75 #[.int .u8 5] w fun e w' => e = .returned (.tuple #[.agg #[.bool false, .bool true, .bool false, .bool true, .bool false, .bool false, .bool false], .bool true]) ∧ Below w.heap.size w w' := by
  have hb := Blk.new w 119 [.bool false, .bool true, .bool false, .bool true, .bool false, .bool false, .bool false]
  go_enter Tryz.func75, Tryz.ntmps75
  go_wp2_with fail
  refine ret_cell2 (g := w.heap.size) (e := 119) (xs := [.bool false, .bool true, .bool false, .bool true, .bool false, .bool false, .bool false]) rfl (by rfl) (by rfl) hb rfl (by rfl) (by rfl) rfl ?_
  exact ⟨rfl, cur_new _ _⟩
theorem uses_r6 (w : World) : Calls Tryz.prog 75 #[.int .u8 6] w fun e w' => e = .returned (.tuple #[.agg #[.bool false, .bool true, .bool false, .bool true, .bool false, .bool false, .bool false], .bool true]) ∧ Below w.heap.size w w' := by
  have hb := Blk.new w 119 [.bool false, .bool true, .bool false, .bool true, .bool false, .bool false, .bool false]
  go_enter Tryz.func75, Tryz.ntmps75
  go_wp2_with fail
  refine ret_cell2 (g := w.heap.size) (e := 119) (xs := [.bool false, .bool true, .bool false, .bool true, .bool false, .bool false, .bool false]) rfl (by rfl) (by rfl) hb rfl (by rfl) (by rfl) rfl ?_
  exact ⟨rfl, cur_new _ _⟩
theorem uses_r7 (w : World) : Calls Tryz.prog 75 #[.int .u8 7] w fun e w' => e = .returned (.tuple #[.agg #[.bool false, .bool false, .bool false, .bool false, .bool true, .bool false, .bool false], .bool true]) ∧ Below w.heap.size w w' := by
  have hb := Blk.new w 119 [.bool false, .bool false, .bool false, .bool false, .bool true, .bool false, .bool false]
  go_enter Tryz.func75, Tryz.ntmps75
  go_wp2_with fail
  refine ret_cell2 (g := w.heap.size) (e := 119) (xs := [.bool false, .bool false, .bool false, .bool false, .bool true, .bool false, .bool false]) rfl (by rfl) (by rfl) hb rfl (by rfl) (by rfl) rfl ?_
  exact ⟨rfl, cur_new _ _⟩
theorem uses_r8 (w : World) : Calls Tryz.prog 75 #[.int .u8 8] w fun e w' => e = .returned (.tuple #[.agg #[.bool false, .bool true, .bool false, .bool false, .bool false, .bool false, .bool false], .bool true]) ∧ Below w.heap.size w w' := by
  have hb := Blk.new w 119 [.bool false, .bool true, .bool false, .bool false, .bool false, .bool false, .bool false]
  go_enter Tryz.func75, Tryz.ntmps75
  go_wp2_with fail
  refine ret_cell2 (g := w.heap.size) (e := 119) (xs := [.bool false, .bool true, .bool false, .bool false, .bool false, .bool false, .bool false]) rfl (by rfl) (by rfl) hb rfl (by rfl) (by rfl) rfl ?_
  exact ⟨rfl, cur_new _ _⟩
theorem uses_r9 (w : World) : Calls Tryz.prog 75 #[.int .u8 9] w fun e w' => e = .returned (.tuple #[.agg #[.bool false, .bool true, .bool false, .bool true, .bool false, .bool false, .bool false], .bool true]) ∧ Below w.heap.size w w' := by
  have hb := Blk.new w 119 [.bool false, .bool true, .bool false, .bool true, .bool false, .bool false, .bool false]
  go_enter Tryz.func75, Tryz.ntmps75
  go_wp2_with fail
  refine ret_cell2 (g := w.heap.size) (e := 119) (xs := [.bool false, .bool true, .bool false, .bool true, .bool false, .bool false, .bool false]) rfl (by rfl) (by rfl) hb rfl (by rfl) (by rfl) rfl ?_
  exact ⟨rfl, cur_new _ _⟩
theorem uses_r10 (w : World) : Calls Tryz.prog 75 #[.int .u8 10] w fun e w' => e = .returned (.tuple #[.agg #[.bool false, .bool false, .bool false, .bool false, .bool false, .bool false, .bool false], .bool true]) ∧ Below w.heap.size w w' := by
  have hb := Blk.new w 119 [.bool false, .bool false, .bool false, .bool false, .bool false, .bool false, .bool false]
  go_enter Tryz.func75, Tryz.ntmps75
  go_wp2_with fail
  refine ret_cell2 (g := w.heap.size) (e := 119) (xs := [.bool false, .bool false, .bool false, .bool false, .bool false, .bool false, .bool false]) rfl (by rfl) (by rfl) hb rfl (by rfl) (by rfl) rfl ?_
  exact ⟨rfl, cur_new _ _⟩
theorem uses_r11 (w : World) : Calls Tryz.prog 75 #[.int .u8 11] w fun e w' => e = .returned (.tuple #[.agg #[.bool true, .bool false, .bool false, .bool false, .bool false, .bool false, .bool false], .bool true]) ∧ Below w.heap.size w w' := by
  have hb := Blk.new w 119 [.bool true, .bool false, .bool false, .bool false, .bool false, .bool false, .bool false]
  go_enter Tryz.func75, Tryz.ntmps75
  go_wp2_with fail
  refine ret_cell2 (g := w.heap.size) (e := 119) (xs := [.bool true, .bool false, .bool false, .bool false, .bool false, .bool false, .bool false]) rfl (by rfl) (by rfl) hb rfl (by rfl) (by rfl) rfl ?_
  exact ⟨rfl, cur_new _ _⟩
theorem uses_r12 (w : World) : Calls Tryz.prog 75 #[.int .u8 12] w fun e w' => e = .returned (.tuple #[.agg #[.bool true, .bool false, .bool false, .bool true, .bool false, .bool false, .bool false], .bool true]) ∧ Below w.heap.size w w' := by
  have hb := Blk.new w 119 [.bool true, .bool false, .bool false, .bool true, .bool false, .bool false, .bool false]
  go_enter Tryz.func75, Tryz.ntmps75
  go_wp2_with fail
  refine ret_cell2 (g := w.heap.size) (e := 119) (xs := [.bool true, .bool false, .bool false, .bool true, .bool false, .bool false, .bool false]) rfl (by rfl) (by rfl) hb rfl (by rfl) (by rfl) rfl ?_
  exact ⟨rfl, cur_new _ _⟩
theorem uses_r13 (w : World) : Calls Tryz.prog 75 #[.int .u8 13] w fun e w' => e = .returned (.tuple #[.agg #[.bool true, .bool false, .bool false, .bool false, .bool true, .bool false, .bool false], .bool true]) ∧ Below w.heap.size w w' := by
  have hb := Blk.new w 119 [.bool true, .bool false, .bool false, .bool false, .bool true, .bool false, .bool false]
  go_enter Tryz.func75, Tryz.ntmps75
  go_wp2_with fail
  refine ret_cell2 (g := w.heap.size) (e := 119) (xs := [.bool true, .bool false, .bool false, .bool false, .bool true, .bool false, .bool false]) rfl (by rfl) (by rfl) hb rfl (by rfl) (by rfl) rfl ?_
  exact ⟨rfl, cur_new _ _⟩
theorem uses_r14 (w : World) : Calls Tryz.prog 75 #[.int .u8 14] w fun e w' => e = .returned (.tuple #[.agg #[.bool true, .bool false, .bool false, .bool true, .bool false, .bool false, .bool false], .bool true]) ∧ Below w.heap.size w w' := by
  have hb := Blk.new w 119 [.bool true, .bool false, .bool false, .bool true, .bool false, .bool false, .bool false]
  go_enter Tryz.func75, Tryz.ntmps75
  go_wp2_with fail
  refine ret_cell2 (g := w.heap.size) (e := 119) (xs := [.bool true, .bool false, .bool false, .bool true, .bool false, .bool false, .bool false]) rfl (by rfl) (by rfl) hb rfl (by rfl) (by rfl) rfl ?_
  exact ⟨rfl, cur_new _ _⟩
theorem uses_r15 (w : World) : Calls Tryz.prog 75 #[.int .u8 15] w fun e w' => e = .returned (.tuple #[.agg #[.bool false, .bool false, .bool false, .bool false, .bool true, .bool true, .bool false], .bool true]) ∧ Below w.heap.size w w' := by
  have hb := Blk.new w 119 [.bool false, .bool false, .bool false, .bool false, .bool true, .bool true, .bool false]
  go_enter Tryz.func75, Tryz.ntmps75
  go_wp2_with fail
  refine ret_cell2 (g := w.heap.size) (e := 119) (xs := [.bool false, .bool false, .bool false, .bool false, .bool true, .bool true, .bool false]) rfl (by rfl) (by rfl) hb rfl (by rfl) (by rfl) rfl ?_
  exact ⟨rfl, cur_new _ _⟩
theorem uses_r16 (w : World) : Calls Tryz.prog 75 #[.int .u8 16] w fun e w' => e = .returned (.tuple #[.agg #[.bool false, .bool false, .bool false, .bool false, .bool false, .bool false, .bool false], .bool true]) ∧ Below w.heap.size w w' := by
  have hb := Blk.new w 119 [.bool false, .bool false, .bool false, .bool false, .bool false, .bool false, .bool false]
  go_enter Tryz.func75, Tryz.ntmps75
  go_wp2_with fail
  refine ret_cell2 (g := w.heap.size) (e := 119) (xs := [.bool false, .bool false, .bool false, .bool false, .bool false, .bool false, .bool false]) rfl (by rfl) (by rfl) hb rfl (by rfl) (by rfl) rfl ?_
  exact ⟨rfl, cur_new _ _⟩
theorem uses_r0 (k : Int) (h : k < 1 ∨ 16 < k) (w : World) : Calls Tryz.prog 75 #[.int .u8 k] w fun e w' => e = .returned (.tuple #[.agg #[.bool false, .bool false, .bool false, .bool false, .bool false, .bool false, .bool false], .bool false]) ∧ Below w.heap.size w w' := by
  have g1 : (k == 1) = false := by simp; omega
  have g2 : (k == 2) = false := by simp; omega
  have g3 : (k == 3) = false := by simp; omega
  have g4 : (k == 4) = false := by simp; omega
  have g5 : (k == 5) = false := by simp; omega
  have g6 : (k == 6) = false := by simp; omega
  have g7 : (k == 7) = false := by simp; omega
  have g8 : (k == 8) = false := by simp; omega
  have g9 : (k == 9) = false := by simp; omega
  have g10 : (k == 10) = false := by simp; omega
  have g11 : (k == 11) = false := by simp; omega
  have g12 : (k == 12) = false := by simp; omega
  have g13 : (k == 13) = false := by simp; omega
  have g14 : (k == 14) = false := by simp; omega
  have g15 : (k == 15) = false := by simp; omega
  have g16 : (k == 16) = false := by simp; omega
  have hb := Blk.new w 119 [.bool false, .bool false, .bool false, .bool false, .bool false, .bool false, .bool false]
  clear h
  go_enter Tryz.func75, Tryz.ntmps75
  go_wp2_with fail
  refine ret_cell2 (g := w.heap.size) (e := 119) (xs := [.bool false, .bool false, .bool false, .bool false, .bool false, .bool false, .bool false]) rfl (by rfl) (by rfl) hb rfl (by rfl) (by rfl) rfl ?_
  exact ⟨rfl, cur_new _ _⟩
end Go.Proofs.YtdbiihfoafoljaaGreatDoor
