/-
  Texts of one chapter, put together (a claim holds at most sixty files).
-/
import Derived.Test.YtgkjcapoddjkhaaGreatDoorEvQ
import Derived.Test.YtgkjcapoddjkhaaGreatDoorBase
import Derived.BigGuard
import Derived.Test.YtgkjcapoddjkhaaGreatDoorPadE
import Derived.Test.YtgkjcapoddjkhaaGreatDoorNotPrR
import Derived.Test.YtgkjcapoddjkhaaGreatDoorEvT
import Derived.Test.YtgkjcapoddjkhaaGreatDoorTLog
set_option linter.unusedSimpArgs false
set_option linter.unusedVariables false
namespace Go.Proofs.YtgkjcapoddjkhaaGreatDoor
section
/-! Chapter 8: Check of the reference: what a kind uses. -/
open Go.RowKit
set_option maxRecDepth 100000
set_option maxHeartbeats 8000000
theorem in_r (n lo hi : Int) (v : Bool) (w : World) (hv : btw n lo hi = v) : Calls Tryz.prog 39 #[.int .i64 n, .int .i64 lo, .int .i64 hi] w fun e w' => e = .returned (.bool v) ∧ w = w' := by
  subst hv
  unfold btw
  by_cases h1 : lo ≤ n
  · by_cases h2 : n ≤ hi
    · go_enter Tryz.func39, Tryz.ntmps39
      go_wp2_with fail
      go_ret
      simp [h1, h2]
    · go_enter Tryz.func39, Tryz.ntmps39
      go_wp2_with fail
      go_ret
      simp [h1, h2]
  · go_enter Tryz.func39, Tryz.ntmps39
    go_wp2_with fail
    go_ret
    simp
    omega
theorem runs_r (k : Int) (w : World) : Calls Tryz.prog 38 #[.int .u8 k] w fun e w' => e = .returned (.tuple #[.int .i64 (loR k), .int .i64 (hiR k)]) ∧ w = w' := by
  unfold loR hiR
  by_cases h7 : k = 7
  · subst h7
    go_enter Tryz.func38, Tryz.ntmps38
    go_wp2_with fail
    go_ret2
    exact ⟨rfl, rfl⟩
  have g1 : (k == 7) = false := by simpa using h7
  by_cases h13 : k = 13
  · subst h13
    go_enter Tryz.func38, Tryz.ntmps38
    go_wp2_with fail
    go_ret2
    exact ⟨rfl, rfl⟩
  · have g2 : (k == 13) = false := by simpa using h13
    go_enter Tryz.func38, Tryz.ntmps38
    go_wp2_with fail
    go_ret2
    exact ⟨rfl, rfl⟩
theorem uses_r1 (w : World) : Calls Tryz.prog 37 #[.int .u8 1] w fun e w' => e = .returned (.tuple #[.agg #[.bool true, .bool false, .bool false, .bool true, .bool false, .bool false, .bool false], .bool true]) ∧ Below w.heap.size w w' := by
  have hb := Blk.new w 73 [.bool true, .bool false, .bool false, .bool true, .bool false, .bool false, .bool false]
  go_enter Tryz.func37, Tryz.ntmps37
  go_wp2_with fail
  refine ret_cell2 (g := w.heap.size) (e := 73) (xs := [.bool true, .bool false, .bool false, .bool true, .bool false, .bool false, .bool false]) rfl (by rfl) (by rfl) hb rfl (by rfl) (by rfl) rfl ?_
  exact ⟨rfl, cur_new _ _⟩
theorem uses_r2 (w : World) : Calls Tryz.prog 37 #[.int .u8 2] w fun e w' => e = .returned (.tuple #[.agg #[.bool false, .bool true, .bool true, .bool false, .bool false, .bool false, .bool false], .bool true]) ∧ Below w.heap.size w w' := by
  have hb := Blk.new w 73 [.bool false, .bool true, .bool true, .bool false, .bool false, .bool false, .bool false]
  go_enter Tryz.func37, Tryz.ntmps37
  go_wp2_with fail
  refine ret_cell2 (g := w.heap.size) (e := 73) (xs := [.bool false, .bool true, .bool true, .bool false, .bool false, .bool false, .bool false]) rfl (by rfl) (by rfl) hb rfl (by rfl) (by rfl) rfl ?_
  exact ⟨rfl, cur_new _ _⟩
theorem uses_r3 (w : World) : Calls Tryz.prog 37 #[.int .u8 3] w fun e w' => e = .returned (.tuple #[.agg #[.bool false, .bool true, .bool false, .bool false, .bool false, .bool false, .bool false], .bool true]) ∧ Below w.heap.size w w' := by
  have hb := Blk.new w 73 [.bool false, .bool true, .bool false, .bool false, .bool false, .bool false, .bool false]
  go_enter Tryz.func37, Tryz.ntmps37
  go_wp2_with fail
  refine ret_cell2 (g := w.heap.size) (e := 73) (xs := [.bool false, .bool true, .bool false, .bool false, .bool false, .bool false, .bool false]) rfl (by rfl) (by rfl) hb rfl (by rfl) (by rfl) rfl ?_
  exact ⟨rfl, cur_new _ _⟩
theorem uses_r4 (w : World) : Calls Tryz.prog 37 #[.int .u8 4] w fun e w' => e = .returned (.tuple #[.agg #[.bool false, .bool false, .bool false, .bool false, .bool false, .bool false, .bool true], .bool true]) ∧ Below w.heap.size w w' := by
  have hb := Blk.new w 73 [.bool false, .bool false, .bool false, .bool false, .bool false, .bool false, .bool true]
  go_enter Tryz.func37, Tryz.ntmps37
  go_wp2_with fail
  refine ret_cell2 (g := w.heap.size) (e := 73) (xs := [.bool false, .bool false, .bool false, .bool false, .bool false, .bool false, .bool true]) rfl (by rfl) (by rfl) hb rfl (by rfl) (by rfl) rfl ?_
  exact ⟨rfl, cur_new _ _⟩
theorem uses_r5 (w : World) : Calls Tryz.prog 37 #[.int .u8 5] w fun e w' => e = .returned (.tuple #[.agg #[.bool false, .bool true, .bool false, .bool true, .bool false, .bool false, .bool false], .bool true]) ∧ Below w.heap.size w w' := by
  have hb := Blk.new w 73 [.bool false, .bool true, .bool false, .bool true, .bool false, .bool false, .bool false]
  go_enter Tryz.func37, Tryz.ntmps37
  go_wp2_with fail
  refine ret_cell2 (g := w.heap.size) (e := 73) (xs := [.bool false, .bool true, .bool false, .bool true, .bool false, .bool false, .bool false]) rfl (by rfl) (by rfl) hb rfl (by rfl) (by rfl) rfl ?_
  exact ⟨rfl, cur_new _ _⟩
theorem uses_r6 (w : World) : Calls Tryz.prog 37 #[.int .u8 6] w fun e w' => e = .returned (.tuple #[.agg #[.bool false, .bool true, .bool false, .bool true, .bool false, .bool false, .bool false], .bool true]) ∧ Below w.heap.size w w' := by
  have hb := Blk.new w 73 [.bool false, .bool true, .bool false, .bool true, .bool false, .bool false, .bool false]
  go_enter Tryz.func37, Tryz.ntmps37
  go_wp2_with fail
  refine ret_cell2 (g := w.heap.size) (e := 73) (xs := [.bool false, .bool true, .bool false, .bool true, .bool false, .bool false, .bool false]) rfl (by rfl) (by rfl) hb rfl (by rfl) (by rfl) rfl ?_
  exact ⟨rfl, cur_new _ _⟩
theorem uses_r7 (w : World) : Calls Tryz.prog 37 #[.int .u8 7] w fun e w' => e = .returned (.tuple #[.agg #[.bool false, .bool false, .bool false, .bool false, .bool true, .bool false, .bool false], .bool true]) ∧ Below w.heap.size w w' := by
  have hb := Blk.new w 73 [.bool false, .bool false, .bool false, .bool false, .bool true, .bool false, .bool false]
  go_enter Tryz.func37, Tryz.ntmps37
  go_wp2_with fail
  refine ret_cell2 (g := w.heap.size) (e := 73) (xs := [.bool false, .bool false, .bool false, .bool false, .bool true, .bool false, .bool false]) rfl (by rfl) (by rfl) hb rfl (by rfl) (by rfl) rfl ?_
  exact ⟨rfl, cur_new _ _⟩
theorem uses_r8 (w : World) : Calls Tryz.prog 37 #[.int .u8 8] w fun e w' => e = .returned (.tuple #[.agg #[.bool false, .bool true, .bool false, .bool false, .bool false, .bool false, .bool false], .bool true]) ∧ Below w.heap.size w w' := by
  have hb := Blk.new w 73 [.bool false, .bool true, .bool false, .bool false, .bool false, .bool false, .bool false]
  go_enter Tryz.func37, Tryz.ntmps37
  go_wp2_with fail
  refine ret_cell2 (g := w.heap.size) (e := 73) (xs := [.bool false, .bool true, .bool false, .bool false, .bool false, .bool false, .bool false]) rfl (by rfl) (by rfl) hb rfl (by rfl) (by rfl) rfl ?_
  exact ⟨rfl, cur_new _ _⟩
theorem uses_r9 (w : World) : Calls Tryz.prog 37 #[.int .u8 9] w fun e w' => e = .returned (.tuple #[.agg #[.bool false, .bool true, .bool false, .bool true, .bool false, .bool false, .bool false], .bool true]) ∧ Below w.heap.size w w' := by
  have hb := Blk.new w 73 [.bool false, .bool true, .bool false, .bool true, .bool false, .bool false, .bool false]
  go_enter Tryz.func37, Tryz.ntmps37
  go_wp2_with fail
  refine ret_cell2 (g := w.heap.size) (e := 73) (xs := [.bool false, .bool true, .bool false, .bool true, .bool false, .bool false, .bool false]) rfl (by rfl) (by rfl) hb rfl (by rfl) (by rfl) rfl ?_
  exact ⟨rfl, cur_new _ _⟩
theorem uses_r10 (w : World) : Calls Tryz.prog 37 #[.int .u8 10] w fun e w' => e = .returned (.tuple #[.agg #[.bool false, .bool false, .bool false, .bool false, .bool false, .bool false, .bool false], .bool true]) ∧ Below w.heap.size w w' := by
  have hb := Blk.new w 73 [.bool false, .bool false, .bool false, .bool false, .bool false, .bool false, .bool false]
  go_enter Tryz.func37, Tryz.ntmps37
  go_wp2_with fail
  refine ret_cell2 (g := w.heap.size) (e := 73) (xs := [.bool false, .bool false, .bool false, .bool false, .bool false, .bool false, .bool false]) rfl (by rfl) (by rfl) hb rfl (by rfl) (by rfl) rfl ?_
  exact ⟨rfl, cur_new _ _⟩
theorem uses_r11 (w : World) : Calls Tryz.prog 37 #[.int .u8 11] w fun e w' => e = .returned (.tuple #[.agg #[.bool true, .bool false, .bool false, .bool false, .bool false, .bool false, .bool false], .bool true]) ∧ Below w.heap.size w w' := by
  have hb := Blk.new w 73 [.bool true, .bool false, .bool false, .bool false, .bool false, .bool false, .bool false]
  go_enter Tryz.func37, Tryz.ntmps37
  go_wp2_with fail
  refine ret_cell2 (g := w.heap.size) (e := 73) (xs := [.bool true, .bool false, .bool false, .bool false, .bool false, .bool false, .bool false]) rfl (by rfl) (by rfl) hb rfl (by rfl) (by rfl) rfl ?_
  exact ⟨rfl, cur_new _ _⟩
theorem uses_r12 (w : World) : Calls Tryz.prog 37 #[.int .u8 12] w fun e w' => e = .returned (.tuple #[.agg #[.bool true, .bool false, .bool false, .bool true, .bool false, .bool false, .bool false], .bool true]) ∧ Below w.heap.size w w' := by
  have hb := Blk.new w 73 [.bool true, .bool false, .bool false, .bool true, .bool false, .bool false, .bool false]
  go_enter Tryz.func37, Tryz.ntmps37
  go_wp2_with fail
  refine ret_cell2 (g := w.heap.size) (e := 73) (xs := [.bool true, .bool false, .bool false, .bool true, .bool false, .bool false, .bool false]) rfl (by rfl) (by rfl) hb rfl (by rfl) (by rfl) rfl ?_
  exact ⟨rfl, cur_new _ _⟩
theorem uses_r13 (w : World) : Calls Tryz.prog 37 #[.int .u8 13] w fun e w' => e = .returned (.tuple #[.agg #[.bool true, .bool false, .bool false, .bool false, .bool true, .bool false, .bool false], .bool true]) ∧ Below w.heap.size w w' := by
  have hb := Blk.new w 73 [.bool true, .bool false, .bool false, .bool false, .bool true, .bool false, .bool false]
  go_enter Tryz.func37, Tryz.ntmps37
  go_wp2_with fail
  refine ret_cell2 (g := w.heap.size) (e := 73) (xs := [.bool true, .bool false, .bool false, .bool false, .bool true, .bool false, .bool false]) rfl (by rfl) (by rfl) hb rfl (by rfl) (by rfl) rfl ?_
  exact ⟨rfl, cur_new _ _⟩
theorem uses_r14 (w : World) : Calls Tryz.prog 37 #[.int .u8 14] w fun e w' => e = .returned (.tuple #[.agg #[.bool true, .bool false, .bool false, .bool true, .bool false, .bool false, .bool false], .bool true]) ∧ Below w.heap.size w w' := by
  have hb := Blk.new w 73 [.bool true, .bool false, .bool false, .bool true, .bool false, .bool false, .bool false]
  go_enter Tryz.func37, Tryz.ntmps37
  go_wp2_with fail
  refine ret_cell2 (g := w.heap.size) (e := 73) (xs := [.bool true, .bool false, .bool false, .bool true, .bool false, .bool false, .bool false]) rfl (by rfl) (by rfl) hb rfl (by rfl) (by rfl) rfl ?_
  exact ⟨rfl, cur_new _ _⟩
theorem uses_r15 (w : World) : Calls Tryz.prog 37 #[.int .u8 15] w fun e w' => e = .returned (.tuple #[.agg #[.bool false, .bool false, .bool false, .bool false, .bool true, .bool true, .bool false], .bool true]) ∧ Below w.heap.size w w' := by
  have hb := Blk.new w 73 [.bool false, .bool false, .bool false, .bool false, .bool true, .bool true, .bool false]
  go_enter Tryz.func37, Tryz.ntmps37
  go_wp2_with fail
  refine ret_cell2 (g := w.heap.size) (e := 73) (xs := [.bool false, .bool false, .bool false, .bool false, .bool true, .bool true, .bool false]) rfl (by rfl) (by rfl) hb rfl (by rfl) (by rfl) rfl ?_
  exact ⟨rfl, cur_new _ _⟩
theorem uses_r16 (w : World) : Calls Tryz.prog 37 #[.int .u8 16] w fun e w' => e = .returned (.tuple #[.agg #[.bool false, .bool false, .bool false, .bool false, .bool false, .bool false, .bool false], .bool true]) ∧ Below w.heap.size w w' := by
  have hb := Blk.new w 73 [.bool false, .bool false, .bool false, .bool false, .bool false, .bool false, .bool false]
  go_enter Tryz.func37, Tryz.ntmps37
  go_wp2_with fail
  refine ret_cell2 (g := w.heap.size) (e := 73) (xs := [.bool false, .bool false, .bool false, .bool false, .bool false, .bool false, .bool false]) rfl (by rfl) (by rfl) hb rfl (by rfl) (by rfl) rfl ?_
  exact ⟨rfl, cur_new _ _⟩
theorem uses_r0 (k : Int) (h : k < 1 ∨ 16 < k) (w : World) : Calls Tryz.prog 37 #[.int .u8 k] w fun e w' => e = .returned (.tuple #[.agg #[.bool false, .bool false, .bool false, .bool false, .bool false, .bool false, .bool false], .bool false]) ∧ Below w.heap.size w w' := by
  have g1 : (k == 1) = false := by simp; omega
  have g2 : (k == 2) = false := by simp; omega
  have g3 : (k == 3) = false := by simp; omega
  have g4 : (k == 4) = false := by simp; omega
  have g5 : (k == 5) = false := by simp; omega
  have g6 : (k == 6) = false := by simp; omega
  have g7 : (k == 7) = false := by simp; omega
  have g8 : (k == 8) = false := by simp; omega
  have g9 : (k == 9) = false := by simp; omega
  have g10 : (k == 10) = false := by simp; omega
  have g11 : (k == 11) = false := by simp; omega
  have g12 : (k == 12) = false := by simp; omega
  have g13 : (k == 13) = false := by simp; omega
  have g14 : (k == 14) = false := by simp; omega
  have g15 : (k == 15) = false := by simp; omega
  have g16 : (k == 16) = false := by simp; omega
  have hb := Blk.new w 73 [.bool false, .bool false, .bool false, .bool false, .bool false, .bool false, .bool false]
  clear h
  go_enter Tryz.func37, Tryz.ntmps37
  go_wp2_with fail
  refine ret_cell2 (g := w.heap.size) (e := 73) (xs := [.bool false, .bool false, .bool false, .bool false, .bool false, .bool false, .bool false]) rfl (by rfl) (by rfl) hb rfl (by rfl) (by rfl) rfl ?_
  exact ⟨rfl, cur_new _ _⟩
end

section
/-! A region that draws nothing, parted behind some of its operations: what the first ones leave is said once. -/
open Go.RowKit
theorem oper_mono2 {P : Program} {o : Oper} {a : Act} {w : World} {K K' : Act → World → Prop} {Q Q' : Exit → Act → World → Prop} (h : ∀ a w, K a w → K' a w) (hq : ∀ e a w, e ≠ .normal → Q e a w → Q' e a w)
    (hh : o.wp P a w K Q) : o.wp P a w K' Q' := by
  unfold Oper.wp at *
  generalize (execOp a.eval o).run P w = r at *
  cases r with
  | ok n w' =>
    cases n <;> simp only [Oper.upon] at hh ⊢ <;>
      first
        | exact h _ _ hh
        | exact Calls.mono hh (fun e w'' he => by
            cases e
            · exact h _ _ he
            · exact hq _ _ _ (by simp) he
            · exact he.imp fun a he => he.imp fun w he => hq _ _ _ (by simp) he)
        | exact Rows.mono hh (fun _ _ he => h _ _ he)
  | halt x w' =>
    cases x <;> simp only [Oper.upon] at hh ⊢ <;> first | exact hq _ _ _ (by simp) hh | exact hh
theorem wpList_to {P : Program} {ops : Array Oper} {Q : Exit → Act → World → Prop} {J : Act → World → Prop} {l2 : List Oper} (h2 : ∀ a w, J a w → wpList P ops Q l2 a w) :
    ∀ (l1 : List Oper) (a : Act) (w : World), wpList P ops (Exit.then J Q) l1 a w → wpList P ops Q (l1 ++ l2) a w
  | [], a, w, h => h2 a w h
  | o :: r, a, w, h => by
    show wpList P ops Q (o :: (r ++ l2)) a w
    unfold wpList at h ⊢
    split
    · next hw =>
      rw [if_pos hw] at h
      rcases h with h | ⟨h, h'⟩
      · exact .inl (oper_mono2 (fun a w hk => wpList_to h2 r a w hk) (fun e a w hn hq => by cases e <;> first | exact absurd rfl hn | exact hq) h)
      · exact .inr ⟨h, h'⟩
    · next hw =>
      rw [if_neg hw] at h
      exact wpList_to h2 r _ _ h
theorem wpList_cut {P : Program} {ops : Array Oper} {Q : Exit → Act → World → Prop} {l1 l2 : List Oper} {a : Act} {w : World} (R : Act → World → Prop) (h1 : ∀ J : Act → World → Prop, (∀ a w, R a w → J a w) → wpList P ops (Exit.then J Q) l1 a w)
    (h2 : ∀ a w, R a w → wpList P ops Q l2 a w) : wpList P ops Q (l1 ++ l2) a w := wpList_to h2 l1 a w (h1 R fun _ _ h => h)
theorem wpList_cut_at (n : Nat) {P : Program} {ops : Array Oper} {Q : Exit → Act → World → Prop} {l : List Oper} {a : Act} {w : World} (R : Act → World → Prop) (h1 : ∀ J : Act → World → Prop, (∀ a w, R a w → J a w) → wpList P ops (Exit.then J Q) (l.take n) a w)
    (h2 : ∀ a w, R a w → wpList P ops Q (l.drop n) a w) : wpList P ops Q l a w := by
  have := wpList_cut (l1 := l.take n) (l2 := l.drop n) R h1 h2
  rwa [List.take_append_drop] at this
theorem wpList_skip {P : Program} {ops : Array Oper} {Q : Exit → Act → World → Prop} {o : Oper} {rest : List Oper} {a : Act} {w : World} (h : Region.wanted o (yielded ops a.tmps) = false) (k : wpList P ops Q rest (a.put o.dst undef) w) : wpList P ops Q (o :: rest) a w := by
  unfold wpList
  rw [if_neg (by rw [h]; decide)]
  exact k
end

section
/-! Chapter 8: Check of the reference. -/
open Go.RowKit
set_option maxRecDepth 100000
set_option maxHeartbeats 8000000
/-- The first error, by what a kind uses. -/
def chkU (us up uo uy ur uv ub : Bool) (e : Ev) : Int :=
  if (((((((!us && e.side != 0) || (!up && e.player != 0)) || (!uo && e.other != 0)) || (!uy && e.yes)) || (!ur && e.runs != 0)) || (!uv && e.overs != 0)) || (!ub && decide (e.ball ≠ zeroD))) then 1
  else if (((((us && !btw e.side 1 2) || (up && !btw e.player 1 11)) || (uo && !btw e.other 1 11)) || (ur && !btw e.runs (loR e.kind) (hiR e.kind))) || (uv && !btw e.overs 0 90)) then 2
  else if ub then chkD e.ball else 0
theorem chr_g (e : Ev) (us up uo uy ur uv ub : Bool) (hu : ∀ w, Calls Tryz.prog 37 #[.int .u8 e.kind] w fun e' w' => e' = .returned (.tuple #[.agg #[.bool us, .bool up, .bool uo, .bool uy, .bool ur, .bool uv, .bool ub], .bool true]) ∧ Below w.heap.size w w') (w : World) : Calls Tryz.prog 13 #[evV e] w fun e' w' => e' = .returned (.int .i64 (chkU us up uo uy ur uv ub e)) ∧ Below w.heap.size w w' := by
  have HU := Lib.hid hu
  obtain ⟨R, hR⟩ : ∃ R, chkU us up uo uy ur uv ub e = R := ⟨_, rfl⟩
  rw [hR]
  have HR := Lib.hid hR
  obtain ⟨w1, hw1⟩ : ∃ y, w.alloc (.cells (evE e).toArray 29) = y := ⟨_, rfl⟩
  have HB1 := Lib.hid (show Below w.heap.size w w1 by rw [← hw1]; exact cur_new _ _)
  have HK1 := Lib.hid (show Blk w1 w.heap.size 29 (evE e) by rw [← hw1]; exact Blk.new w _ _)
  have SW1 := Lib.hid (show w.alloc (.cells #[.int .u8 e.kind, .int .i64 e.side, .int .i64 e.player, .int .i64 e.other, .bool e.yes, .int .i64 e.runs, .int .i64 e.overs, .int .u8 e.ball.ty, .int .u8 e.ball.src, .int .i64 e.ball.runs, .int .i64 e.ball.short, .int .i64 e.ball.bd, .bool e.ball.cr, .int .u8 e.ball.how, .int .i64 e.ball.vic, .int .i64 e.ball.fd, .int .i64 e.ball.sd, .bool e.ball.sub, .int .i64 e.ball.sec] 29) = w1 by rw [← hw1]; rfl)
  obtain ⟨b, hb⟩ : ∃ b, w.heap.size = b := ⟨_, rfl⟩
  rw [hb] at HK1
  have HBB := Lib.hid hb
  unfold evV
  have k0 : w1.cell? ⟨b, 0, none⟩ = some (.int .u8 e.kind) := HK1.out.cell 0
  clear hw1 hb hR hu
  go_enter Tryz.func13, Tryz.ntmps13
  go_wp2_with (rw [SW1.out, HBB.out])
  refine (HU.out w1).mono ?_
  rintro e' w2 ⟨rfl, hb2⟩
  obtain ⟨w3, hw3⟩ : ∃ y, w2.alloc (.cells #[.bool us, .bool up, .bool uo, .bool uy, .bool ur, .bool uv, .bool ub] 73) = y := ⟨_, rfl⟩
  have HB3 := Lib.hid (show Below w.heap.size w w3 by rw [← hw3]; exact cur_step1 (cur_step1 HB1.out hb2) (cur_new w2 _))
  have HK3 := Lib.hid (show Blk w3 b 29 (evE e) by rw [← hw3]; exact (HK1.out.to hb2).to (cur_new w2 _))
  have HU3 := Lib.hid (show Blk w3 w2.heap.size 73 [.bool us, .bool up, .bool uo, .bool uy, .bool ur, .bool uv, .bool ub] by rw [← hw3]; exact Blk.new w2 _ _)
  have S3 := Lib.hid hw3
  obtain ⟨u, hu⟩ : ∃ y, w2.heap.size = y := ⟨_, rfl⟩
  rw [hu] at HU3
  have HUU := Lib.hid hu
  clear hw3 hb2 k0 hu
  generalize Value.agg #[.int .u8 e.kind, .int .i64 e.side, .int .i64 e.player, .int .i64 e.other, .bool e.yes, .int .i64 e.runs, .int .i64 e.overs, .int .u8 e.ball.ty, .int .u8 e.ball.src, .int .i64 e.ball.runs, .int .i64 e.ball.short, .int .i64 e.ball.bd, .bool e.ball.cr, .int .u8 e.ball.how, .int .i64 e.ball.vic, .int .i64 e.ball.fd, .int .i64 e.ball.sd, .bool e.ball.sub, .int .i64 e.ball.sec] = av
  obtain ⟨kd, hkd⟩ : ∃ y, e.kind = y := ⟨_, rfl⟩
  have HKD := Lib.hid hkd
  rw [hkd]
  have d0 : w3.cell? ⟨b, 0, none⟩ = some (.int .u8 kd) := by rw [← hkd]; exact HK3.out.cell 0
  clear hkd
  have qs : w3.cell? ⟨u, 0, none⟩ = some (.bool us) := HU3.out.cell 0
  have qp : w3.cell? ⟨u, 1, none⟩ = some (.bool up) := HU3.out.cell 1
  have qo : w3.cell? ⟨u, 2, none⟩ = some (.bool uo) := HU3.out.cell 2
  have qy : w3.cell? ⟨u, 3, none⟩ = some (.bool uy) := HU3.out.cell 3
  have qr : w3.cell? ⟨u, 4, none⟩ = some (.bool ur) := HU3.out.cell 4
  have qv : w3.cell? ⟨u, 5, none⟩ = some (.bool uv) := HU3.out.cell 5
  have qb : w3.cell? ⟨u, 6, none⟩ = some (.bool ub) := HU3.out.cell 6
  have d1 : w3.cell? ⟨b, 1, none⟩ = some (.int .i64 e.side) := HK3.out.cell 1
  have d2 : w3.cell? ⟨b, 2, none⟩ = some (.int .i64 e.player) := HK3.out.cell 2
  have d3 : w3.cell? ⟨b, 3, none⟩ = some (.int .i64 e.other) := HK3.out.cell 3
  have d4 : w3.cell? ⟨b, 4, none⟩ = some (.bool e.yes) := HK3.out.cell 4
  have d5 : w3.cell? ⟨b, 5, none⟩ = some (.int .i64 e.runs) := HK3.out.cell 5
  have d6 : w3.cell? ⟨b, 6, none⟩ = some (.int .i64 e.overs) := HK3.out.cell 6
  have HDB := Lib.hid HK3.out.cell
  obtain ⟨ns, hns⟩ : ∃ y, (e.side != 0) = y := ⟨_, rfl⟩
  have HNs := Lib.hid hns
  clear hns
  obtain ⟨np, hnp⟩ : ∃ y, (e.player != 0) = y := ⟨_, rfl⟩
  have HNp := Lib.hid hnp
  clear hnp
  obtain ⟨no, hno⟩ : ∃ y, (e.other != 0) = y := ⟨_, rfl⟩
  have HNo := Lib.hid hno
  clear hno
  obtain ⟨ny, hny⟩ : ∃ y, e.yes = y := ⟨_, rfl⟩
  rw [hny] at d4
  have HNy := Lib.hid hny
  clear hny
  obtain ⟨nr, hnr⟩ : ∃ y, (e.runs != 0) = y := ⟨_, rfl⟩
  have HNr := Lib.hid hnr
  clear hnr
  obtain ⟨nv, hnv⟩ : ∃ y, (e.overs != 0) = y := ⟨_, rfl⟩
  have HNv := Lib.hid hnv
  clear hnv
  obtain ⟨nb, hnb⟩ : ∃ y, decide (e.ball ≠ zeroD) = y := ⟨_, rfl⟩
  have HNb := Lib.hid hnb
  clear hnb
  obtain ⟨es, hes⟩ : ∃ y, (!us && ns) = y := ⟨_, rfl⟩
  have HEs := Lib.hid hes
  clear hes
  obtain ⟨ep, hep⟩ : ∃ y, (es || (!up && np)) = y := ⟨_, rfl⟩
  have HEp := Lib.hid hep
  clear hep
  obtain ⟨eo, heo⟩ : ∃ y, (ep || (!uo && no)) = y := ⟨_, rfl⟩
  have HEo := Lib.hid heo
  clear heo
  obtain ⟨ey, hey⟩ : ∃ y, (eo || (!uy && ny)) = y := ⟨_, rfl⟩
  have HEy := Lib.hid hey
  clear hey
  obtain ⟨er, her⟩ : ∃ y, (ey || (!ur && nr)) = y := ⟨_, rfl⟩
  have HEr := Lib.hid her
  clear her
  obtain ⟨ev, hev⟩ : ∃ y, (er || (!uv && nv)) = y := ⟨_, rfl⟩
  have HEv := Lib.hid hev
  clear hev
  obtain ⟨eb, heb⟩ : ∃ y, (ev || (!ub && nb)) = y := ⟨_, rfl⟩
  have HEb := Lib.hid heb
  clear heb
  have HR1 := Lib.hid (show R = if eb then 1 else if (((((us && !btw e.side 1 2) || (up && !btw e.player 1 11)) || (uo && !btw e.other 1 11)) || (ur && !btw e.runs (loR kd) (hiR kd))) || (uv && !btw e.overs 0 90)) then 2 else if ub then chkD e.ball else 0 by
    rw [← HR.out]; unfold chkU
    rw [HKD.out, HNs.out, HNp.out, HNo.out, HNy.out, HNr.out, HNv.out, HNb.out, HEs.out, HEp.out, HEo.out, HEy.out, HEr.out, HEv.out, HEb.out])
  clear HR
  go_upto_region 4 with (rw [S3.out, HUU.out])
  generalize Value.tuple #[.agg #[.bool us, .bool up, .bool uo, .bool uy, .bool ur, .bool uv, .bool ub], .bool true] = t7
  generalize Value.agg #[.bool us, .bool up, .bool uo, .bool uy, .bool ur, .bool uv, .bool ub] = t11
  go_cut [82] (fun v wx => v = .bool eb ∧ w3 = wx)
  case first =>
    refine wp_region_lit ?_
    simp only [List.append_eq, List.cons_append, List.nil_append]
    refine wpList_cut_at 8 (fun a' w' => ∃ v x15 x16 x17 x18 x19 x20 x21, v = .bool es ∧ a' = ⟨#[av, .pointer (some ⟨b, 0, none⟩), .int .i64 0, .pointer (some ⟨u, 0, none⟩), .bool true, undef, undef, t7, .pointer (some ⟨b, 0, none⟩), .int .u8 kd, t7, t11, .bool true, .bool true, .bool false, x15, x16, x17, x18, x19, x20, x21, v, undef, undef, undef, undef, undef, undef, undef, undef, undef, undef, undef, undef, undef, undef, undef, undef, undef, undef, undef, undef, undef, undef, undef, undef, undef, undef, undef, undef, undef, undef, undef, undef, undef, undef, undef, undef, undef, undef, undef, undef, undef, undef, undef, undef, undef, undef, undef, undef, undef, undef, undef, undef, undef, undef, undef, undef, undef, undef, undef, undef, undef, undef, undef, undef, undef, undef, undef, undef, undef, undef, undef, undef, undef, undef, undef, undef, undef, undef, undef, undef, undef, undef, undef, undef, undef, undef, undef, undef, undef, undef, undef, undef, undef, undef, undef, undef, undef, undef, undef, undef, undef, undef, undef, undef, undef, undef, undef, undef, undef, undef, undef, undef, undef, undef, undef, undef, undef, undef, undef, undef, undef], []⟩ ∧ w3 = w') ?_ ?_
    · intro J hJ
      have HJ := Lib.hid hJ
      clear hJ
      simp only [List.take_succ_cons, List.take_zero]
      cases us with
      | true =>
        go_wp2_with (fail)
        exact HJ.out _ _ ⟨_, _, _, _, _, _, _, _, by rw [← HEs.out]; rfl, rfl, rfl⟩
      | false =>
        have g9 : (e.side != 0) = ns := HNs.out
        go_wp2_with (fail)
        exact HJ.out _ _ ⟨_, _, _, _, _, _, _, _, by rw [← HEs.out]; rfl, rfl, rfl⟩
    rintro _ _ ⟨v, x15, x16, x17, x18, x19, x20, x21, rfl, rfl, rfl⟩
    simp only [List.drop_succ_cons, List.drop_zero]
    refine wpList_cut_at 10 (fun a' w' => ∃ v x22 x23 x24 x25 x26 x27 x28 x29 x30 x31, v = .bool ep ∧ a' = ⟨#[av, .pointer (some ⟨b, 0, none⟩), .int .i64 0, .pointer (some ⟨u, 0, none⟩), .bool true, undef, undef, t7, .pointer (some ⟨b, 0, none⟩), .int .u8 kd, t7, t11, .bool true, .bool true, .bool false, x15, x16, x17, x18, x19, x20, x21, x22, x23, x24, x25, x26, x27, x28, x29, x30, x31, v, undef, undef, undef, undef, undef, undef, undef, undef, undef, undef, undef, undef, undef, undef, undef, undef, undef, undef, undef, undef, undef, undef, undef, undef, undef, undef, undef, undef, undef, undef, undef, undef, undef, undef, undef, undef, undef, undef, undef, undef, undef, undef, undef, undef, undef, undef, undef, undef, undef, undef, undef, undef, undef, undef, undef, undef, undef, undef, undef, undef, undef, undef, undef, undef, undef, undef, undef, undef, undef, undef, undef, undef, undef, undef, undef, undef, undef, undef, undef, undef, undef, undef, undef, undef, undef, undef, undef, undef, undef, undef, undef, undef, undef, undef, undef, undef, undef, undef, undef, undef, undef, undef, undef, undef, undef, undef, undef, undef, undef, undef, undef], []⟩ ∧ w3 = w') ?_ ?_
    · intro J hJ
      have HJ := Lib.hid hJ
      clear hJ
      simp only [List.take_succ_cons, List.take_zero]
      cases es with
      | true =>
        go_wp2_with (fail)
        all_goals exact HJ.out _ _ ⟨_, _, _, _, _, _, _, _, _, _, _, by rw [← HEp.out]; rfl, rfl, rfl⟩
      | false =>
        cases up with
        | true =>
          go_wp2_with (fail)
          exact HJ.out _ _ ⟨_, _, _, _, _, _, _, _, _, _, _, by rw [← HEp.out]; rfl, rfl, rfl⟩
        | false =>
          have g9 : (e.player != 0) = np := HNp.out
          go_wp2_with (fail)
          exact HJ.out _ _ ⟨_, _, _, _, _, _, _, _, _, _, _, by rw [← HEp.out]; rfl, rfl, rfl⟩
    rintro _ _ ⟨v, x22, x23, x24, x25, x26, x27, x28, x29, x30, x31, rfl, rfl, rfl⟩
    simp only [List.drop_succ_cons, List.drop_zero]
    refine wpList_cut_at 10 (fun a' w' => ∃ v x32 x33 x34 x35 x36 x37 x38 x39 x40 x41, v = .bool eo ∧ a' = ⟨#[av, .pointer (some ⟨b, 0, none⟩), .int .i64 0, .pointer (some ⟨u, 0, none⟩), .bool true, undef, undef, t7, .pointer (some ⟨b, 0, none⟩), .int .u8 kd, t7, t11, .bool true, .bool true, .bool false, x15, x16, x17, x18, x19, x20, x21, x22, x23, x24, x25, x26, x27, x28, x29, x30, x31, x32, x33, x34, x35, x36, x37, x38, x39, x40, x41, v, undef, undef, undef, undef, undef, undef, undef, undef, undef, undef, undef, undef, undef, undef, undef, undef, undef, undef, undef, undef, undef, undef, undef, undef, undef, undef, undef, undef, undef, undef, undef, undef, undef, undef, undef, undef, undef, undef, undef, undef, undef, undef, undef, undef, undef, undef, undef, undef, undef, undef, undef, undef, undef, undef, undef, undef, undef, undef, undef, undef, undef, undef, undef, undef, undef, undef, undef, undef, undef, undef, undef, undef, undef, undef, undef, undef, undef, undef, undef, undef, undef, undef, undef, undef, undef, undef, undef, undef, undef, undef, undef, undef, undef, undef, undef, undef, undef, undef, undef, undef, undef], []⟩ ∧ w3 = w') ?_ ?_
    · intro J hJ
      have HJ := Lib.hid hJ
      clear hJ
      simp only [List.take_succ_cons, List.take_zero]
      cases ep with
      | true =>
        go_wp2_with (fail)
        all_goals exact HJ.out _ _ ⟨_, _, _, _, _, _, _, _, _, _, _, by rw [← HEo.out]; rfl, rfl, rfl⟩
      | false =>
        cases uo with
        | true =>
          go_wp2_with (fail)
          exact HJ.out _ _ ⟨_, _, _, _, _, _, _, _, _, _, _, by rw [← HEo.out]; rfl, rfl, rfl⟩
        | false =>
          have g9 : (e.other != 0) = no := HNo.out
          go_wp2_with (fail)
          exact HJ.out _ _ ⟨_, _, _, _, _, _, _, _, _, _, _, by rw [← HEo.out]; rfl, rfl, rfl⟩
    rintro _ _ ⟨v, x32, x33, x34, x35, x36, x37, x38, x39, x40, x41, rfl, rfl, rfl⟩
    simp only [List.drop_succ_cons, List.drop_zero]
    refine wpList_cut_at 9 (fun a' w' => ∃ v x42 x43 x44 x45 x46 x47 x48 x49 x50, v = .bool ey ∧ a' = ⟨#[av, .pointer (some ⟨b, 0, none⟩), .int .i64 0, .pointer (some ⟨u, 0, none⟩), .bool true, undef, undef, t7, .pointer (some ⟨b, 0, none⟩), .int .u8 kd, t7, t11, .bool true, .bool true, .bool false, x15, x16, x17, x18, x19, x20, x21, x22, x23, x24, x25, x26, x27, x28, x29, x30, x31, x32, x33, x34, x35, x36, x37, x38, x39, x40, x41, x42, x43, x44, x45, x46, x47, x48, x49, x50, v, undef, undef, undef, undef, undef, undef, undef, undef, undef, undef, undef, undef, undef, undef, undef, undef, undef, undef, undef, undef, undef, undef, undef, undef, undef, undef, undef, undef, undef, undef, undef, undef, undef, undef, undef, undef, undef, undef, undef, undef, undef, undef, undef, undef, undef, undef, undef, undef, undef, undef, undef, undef, undef, undef, undef, undef, undef, undef, undef, undef, undef, undef, undef, undef, undef, undef, undef, undef, undef, undef, undef, undef, undef, undef, undef, undef, undef, undef, undef, undef, undef, undef, undef, undef, undef, undef, undef, undef, undef, undef, undef, undef], []⟩ ∧ w3 = w') ?_ ?_
    · intro J hJ
      have HJ := Lib.hid hJ
      clear hJ
      simp only [List.take_succ_cons, List.take_zero]
      cases eo with
      | true =>
        go_wp2_with (fail)
        all_goals exact HJ.out _ _ ⟨_, _, _, _, _, _, _, _, _, _, by rw [← HEy.out]; rfl, rfl, rfl⟩
      | false =>
        cases uy with
        | true =>
          go_wp2_with (fail)
          exact HJ.out _ _ ⟨_, _, _, _, _, _, _, _, _, _, by rw [← HEy.out]; rfl, rfl, rfl⟩
        | false =>
          go_wp2_with (fail)
          exact HJ.out _ _ ⟨_, _, _, _, _, _, _, _, _, _, by rw [← HEy.out]; rfl, rfl, rfl⟩
    rintro _ _ ⟨v, x42, x43, x44, x45, x46, x47, x48, x49, x50, rfl, rfl, rfl⟩
    simp only [List.drop_succ_cons, List.drop_zero]
    refine wpList_cut_at 10 (fun a' w' => ∃ v x51 x52 x53 x54 x55 x56 x57 x58 x59 x60, v = .bool er ∧ a' = ⟨#[av, .pointer (some ⟨b, 0, none⟩), .int .i64 0, .pointer (some ⟨u, 0, none⟩), .bool true, undef, undef, t7, .pointer (some ⟨b, 0, none⟩), .int .u8 kd, t7, t11, .bool true, .bool true, .bool false, x15, x16, x17, x18, x19, x20, x21, x22, x23, x24, x25, x26, x27, x28, x29, x30, x31, x32, x33, x34, x35, x36, x37, x38, x39, x40, x41, x42, x43, x44, x45, x46, x47, x48, x49, x50, x51, x52, x53, x54, x55, x56, x57, x58, x59, x60, v, undef, undef, undef, undef, undef, undef, undef, undef, undef, undef, undef, undef, undef, undef, undef, undef, undef, undef, undef, undef, undef, undef, undef, undef, undef, undef, undef, undef, undef, undef, undef, undef, undef, undef, undef, undef, undef, undef, undef, undef, undef, undef, undef, undef, undef, undef, undef, undef, undef, undef, undef, undef, undef, undef, undef, undef, undef, undef, undef, undef, undef, undef, undef, undef, undef, undef, undef, undef, undef, undef, undef, undef, undef, undef, undef, undef, undef, undef, undef, undef, undef, undef], []⟩ ∧ w3 = w') ?_ ?_
    · intro J hJ
      have HJ := Lib.hid hJ
      clear hJ
      simp only [List.take_succ_cons, List.take_zero]
      cases ey with
      | true =>
        go_wp2_with (fail)
        all_goals exact HJ.out _ _ ⟨_, _, _, _, _, _, _, _, _, _, _, by rw [← HEr.out]; rfl, rfl, rfl⟩
      | false =>
        cases ur with
        | true =>
          go_wp2_with (fail)
          exact HJ.out _ _ ⟨_, _, _, _, _, _, _, _, _, _, _, by rw [← HEr.out]; rfl, rfl, rfl⟩
        | false =>
          have g9 : (e.runs != 0) = nr := HNr.out
          go_wp2_with (fail)
          exact HJ.out _ _ ⟨_, _, _, _, _, _, _, _, _, _, _, by rw [← HEr.out]; rfl, rfl, rfl⟩
    rintro _ _ ⟨v, x51, x52, x53, x54, x55, x56, x57, x58, x59, x60, rfl, rfl, rfl⟩
    simp only [List.drop_succ_cons, List.drop_zero]
    refine wpList_cut_at 10 (fun a' w' => ∃ v x61 x62 x63 x64 x65 x66 x67 x68 x69 x70, v = .bool ev ∧ a' = ⟨#[av, .pointer (some ⟨b, 0, none⟩), .int .i64 0, .pointer (some ⟨u, 0, none⟩), .bool true, undef, undef, t7, .pointer (some ⟨b, 0, none⟩), .int .u8 kd, t7, t11, .bool true, .bool true, .bool false, x15, x16, x17, x18, x19, x20, x21, x22, x23, x24, x25, x26, x27, x28, x29, x30, x31, x32, x33, x34, x35, x36, x37, x38, x39, x40, x41, x42, x43, x44, x45, x46, x47, x48, x49, x50, x51, x52, x53, x54, x55, x56, x57, x58, x59, x60, x61, x62, x63, x64, x65, x66, x67, x68, x69, x70, v, undef, undef, undef, undef, undef, undef, undef, undef, undef, undef, undef, undef, undef, undef, undef, undef, undef, undef, undef, undef, undef, undef, undef, undef, undef, undef, undef, undef, undef, undef, undef, undef, undef, undef, undef, undef, undef, undef, undef, undef, undef, undef, undef, undef, undef, undef, undef, undef, undef, undef, undef, undef, undef, undef, undef, undef, undef, undef, undef, undef, undef, undef, undef, undef, undef, undef, undef, undef, undef, undef, undef, undef], []⟩ ∧ w3 = w') ?_ ?_
    · intro J hJ
      have HJ := Lib.hid hJ
      clear hJ
      simp only [List.take_succ_cons, List.take_zero]
      cases er with
      | true =>
        go_wp2_with (fail)
        all_goals exact HJ.out _ _ ⟨_, _, _, _, _, _, _, _, _, _, _, by rw [← HEv.out]; rfl, rfl, rfl⟩
      | false =>
        cases uv with
        | true =>
          go_wp2_with (fail)
          exact HJ.out _ _ ⟨_, _, _, _, _, _, _, _, _, _, _, by rw [← HEv.out]; rfl, rfl, rfl⟩
        | false =>
          have g9 : (e.overs != 0) = nv := HNv.out
          go_wp2_with (fail)
          exact HJ.out _ _ ⟨_, _, _, _, _, _, _, _, _, _, _, by rw [← HEv.out]; rfl, rfl, rfl⟩
    rintro _ _ ⟨v, x61, x62, x63, x64, x65, x66, x67, x68, x69, x70, rfl, rfl, rfl⟩
    simp only [List.drop_succ_cons, List.drop_zero]
    cases ev with
    | true =>
      go_wp2_with (fail)
      go_meet
      case rel => exact ⟨by rw [← HEb.out]; rfl, rfl⟩
    | false =>
      cases ub with
      | true =>
        go_wp2_with (fail)
        go_meet
        case rel => exact ⟨by rw [← HEb.out]; rfl, rfl⟩
      | false =>
        have hdb := HDB.out
        have d7 := hdb 7
        have d8 := hdb 8
        have d9 := hdb 9
        have d10 := hdb 10
        have d11 := hdb 11
        have d12 := hdb 12
        have d13 := hdb 13
        have d14 := hdb 14
        have d15 := hdb 15
        have d16 := hdb 16
        have d17 := hdb 17
        have d18 := hdb 18
        simp only [evE, delE, List.cons_append, List.nil_append, List.getElem?_cons_succ, List.getElem?_cons_zero] at d7 d8 d9 d10 d11 d12 d13 d14 d15 d16 d17 d18
        clear hdb
        have kq : ∀ w : World, (binOp .neq 27 (.agg #[.int .u8 e.ball.ty, .int .u8 e.ball.src, .int .i64 e.ball.runs, .int .i64 e.ball.short, .int .i64 e.ball.bd, .bool e.ball.cr, .int .u8 e.ball.how, .int .i64 e.ball.vic, .int .i64 e.ball.fd, .int .i64 e.ball.sd, .bool e.ball.sub, .int .i64 e.ball.sec]) (.agg #[.int .u8 0, .int .u8 0, .int .i64 0, .int .i64 0, .int .i64 0, .bool false, .int .u8 0, .int .i64 0, .int .i64 0, .int .i64 0, .bool false, .int .i64 0])).run Tryz.prog w = .ok (.bool nb) w := fun w => by rw [← HNb.out, decide_not]; exact del_neq e.ball zeroD w
        go_wp2_with (fail)
        go_meet
        case rel => exact ⟨by rw [← HEb.out]; rfl, rfl⟩
  case rest =>
  obtain ⟨rfl, rfl⟩ := hcut
  cases eb with
  | true =>
    have HRR := Lib.hid (show R = 1 by rw [HR1.out]; rfl)
    go_wp2_with (fail)
    go_ret
    rw [HRR.out]
    exact ⟨rfl, HB3.out⟩
  | false =>
    obtain ⟨lo, hlo⟩ : ∃ y, loR kd = y := ⟨_, rfl⟩
    obtain ⟨hi, hhi⟩ : ∃ y, hiR kd = y := ⟨_, rfl⟩
    have HLO := Lib.hid hlo
    have HHI := Lib.hid hhi
    clear hlo hhi
    obtain ⟨fs, hfs⟩ : ∃ y, btw e.side 1 2 = y := ⟨_, rfl⟩
    have HFs := Lib.hid hfs
    obtain ⟨fp, hfp⟩ : ∃ y, btw e.player 1 11 = y := ⟨_, rfl⟩
    have HFp := Lib.hid hfp
    obtain ⟨fo, hfo⟩ : ∃ y, btw e.other 1 11 = y := ⟨_, rfl⟩
    have HFo := Lib.hid hfo
    obtain ⟨fr, hfr⟩ : ∃ y, btw e.runs lo hi = y := ⟨_, rfl⟩
    have HFr := Lib.hid hfr
    obtain ⟨fv, hfv⟩ : ∃ y, btw e.overs 0 90 = y := ⟨_, rfl⟩
    have HFv := Lib.hid hfv
    clear hfs hfp hfo hfr hfv
    obtain ⟨gs, hgs⟩ : ∃ y, (us && !fs) = y := ⟨_, rfl⟩
    have HGs := Lib.hid hgs
    obtain ⟨gp, hgp⟩ : ∃ y, (gs || (up && !fp)) = y := ⟨_, rfl⟩
    have HGp := Lib.hid hgp
    obtain ⟨go, hgo⟩ : ∃ y, (gp || (uo && !fo)) = y := ⟨_, rfl⟩
    have HGo := Lib.hid hgo
    obtain ⟨gr, hgr⟩ : ∃ y, (go || (ur && !fr)) = y := ⟨_, rfl⟩
    have HGr := Lib.hid hgr
    obtain ⟨gv, hgv⟩ : ∃ y, (gr || (uv && !fv)) = y := ⟨_, rfl⟩
    have HGv := Lib.hid hgv
    have HR2 := Lib.hid (show R = if gv then 2 else if ub then chkD e.ball else 0 by
      rw [HR1.out, HLO.out, HHI.out, HFs.out, HFp.out, HFo.out, HFr.out, HFv.out, hgs, hgp, hgo, hgr, hgv]; rfl)
    clear hgs hgp hgo hgr hgv HR1
    go_wp2_with (fail)
    refine (runs_r _ _).mono ?_
    rintro e' w9 ⟨rfl, rfl⟩
    rw [HLO.out, HHI.out]
    go_upto_region 7 with (fail)
    go_cut [138] (fun v wx => v = .bool gv ∧ w3 = wx)
    case first =>
      refine wp_region_lit ?_
      try simp only [List.append_eq, List.cons_append, List.nil_append]
      refine wpList_cut_at 8 (fun a' w' => ∃ v x89 x90 x91 x92 x93 x94 x95, v = .bool gs ∧ a' = ⟨#[av, .pointer (some ⟨b, 0, none⟩), .int .i64 0, .pointer (some ⟨u, 0, none⟩), .bool true, .int .i64 lo, .int .i64 hi, u7, u8, u9, u10, u11, u12, u13, u14, u15, u16, u17, u18, u19, u20, u21, u22, u23, u24, u25, u26, u27, u28, u29, u30, u31, u32, u33, u34, u35, u36, u37, u38, u39, u40, u41, u42, u43, u44, u45, u46, u47, u48, u49, u50, u51, u52, u53, u54, u55, u56, u57, u58, u59, u60, u61, u62, u63, u64, u65, u66, u67, u68, u69, u70, u71, u72, u73, u74, u75, u76, u77, u78, u79, u80, u81, .bool false, .tuple #[.int .i64 lo, .int .i64 hi], .pointer (some ⟨b, 0, none⟩), .int .u8 kd, .tuple #[.int .i64 lo, .int .i64 hi], .int .i64 lo, .int .i64 hi, x89, x90, x91, x92, x93, x94, x95, v, u97, u98, u99, u100, u101, u102, u103, u104, u105, u106, u107, u108, u109, u110, u111, u112, u113, u114, u115, u116, u117, u118, u119, u120, u121, u122, u123, u124, u125, u126, u127, u128, u129, u130, u131, u132, u133, u134, u135, u136, u137, u138, u139, u140, u141, u142, u143], []⟩ ∧ w3 = w') ?_ ?_
      · intro J hJ
        have HJ := Lib.hid hJ
        clear hJ
        simp only [List.take_succ_cons, List.take_zero]
        cases us with
        | true =>
          go_wp2_with (refine (in_r _ _ _ fs _ HFs.out).mono ?_; rintro e' w9 ⟨rfl, rfl⟩)
          exact HJ.out _ _ ⟨_, _, _, _, _, _, _, _, by rw [← HGs.out]; rfl, rfl, rfl⟩
        | false =>
          go_wp2_with (fail)
          exact HJ.out _ _ ⟨_, _, _, _, _, _, _, _, by rw [← HGs.out]; rfl, rfl, rfl⟩
      rintro _ _ ⟨v, x89, x90, x91, x92, x93, x94, x95, rfl, rfl, rfl⟩
      simp only [List.drop_succ_cons, List.drop_zero]
      refine wpList_cut_at 10 (fun a' w' => ∃ v x96 x97 x98 x99 x100 x101 x102 x103 x104 x105, v = .bool gp ∧ a' = ⟨#[av, .pointer (some ⟨b, 0, none⟩), .int .i64 0, .pointer (some ⟨u, 0, none⟩), .bool true, .int .i64 lo, .int .i64 hi, u7, u8, u9, u10, u11, u12, u13, u14, u15, u16, u17, u18, u19, u20, u21, u22, u23, u24, u25, u26, u27, u28, u29, u30, u31, u32, u33, u34, u35, u36, u37, u38, u39, u40, u41, u42, u43, u44, u45, u46, u47, u48, u49, u50, u51, u52, u53, u54, u55, u56, u57, u58, u59, u60, u61, u62, u63, u64, u65, u66, u67, u68, u69, u70, u71, u72, u73, u74, u75, u76, u77, u78, u79, u80, u81, .bool false, .tuple #[.int .i64 lo, .int .i64 hi], .pointer (some ⟨b, 0, none⟩), .int .u8 kd, .tuple #[.int .i64 lo, .int .i64 hi], .int .i64 lo, .int .i64 hi, x89, x90, x91, x92, x93, x94, x95, x96, x97, x98, x99, x100, x101, x102, x103, x104, x105, v, u107, u108, u109, u110, u111, u112, u113, u114, u115, u116, u117, u118, u119, u120, u121, u122, u123, u124, u125, u126, u127, u128, u129, u130, u131, u132, u133, u134, u135, u136, u137, u138, u139, u140, u141, u142, u143], []⟩ ∧ w3 = w') ?_ ?_
      · intro J hJ
        have HJ := Lib.hid hJ
        clear hJ
        simp only [List.take_succ_cons, List.take_zero]
        cases gs with
        | true =>
          go_wp2_with (fail)
          exact HJ.out _ _ ⟨_, _, _, _, _, _, _, _, _, _, _, by rw [← HGp.out]; rfl, rfl, rfl⟩
        | false =>
          cases up with
          | true =>
            go_wp2_with (refine (in_r _ _ _ fp _ HFp.out).mono ?_; rintro e' w9 ⟨rfl, rfl⟩)
            exact HJ.out _ _ ⟨_, _, _, _, _, _, _, _, _, _, _, by rw [← HGp.out]; rfl, rfl, rfl⟩
          | false =>
            go_wp2_with (fail)
            exact HJ.out _ _ ⟨_, _, _, _, _, _, _, _, _, _, _, by rw [← HGp.out]; rfl, rfl, rfl⟩
      rintro _ _ ⟨v, x96, x97, x98, x99, x100, x101, x102, x103, x104, x105, rfl, rfl, rfl⟩
      simp only [List.drop_succ_cons, List.drop_zero]
      refine wpList_cut_at 10 (fun a' w' => ∃ v x106 x107 x108 x109 x110 x111 x112 x113 x114 x115, v = .bool go ∧ a' = ⟨#[av, .pointer (some ⟨b, 0, none⟩), .int .i64 0, .pointer (some ⟨u, 0, none⟩), .bool true, .int .i64 lo, .int .i64 hi, u7, u8, u9, u10, u11, u12, u13, u14, u15, u16, u17, u18, u19, u20, u21, u22, u23, u24, u25, u26, u27, u28, u29, u30, u31, u32, u33, u34, u35, u36, u37, u38, u39, u40, u41, u42, u43, u44, u45, u46, u47, u48, u49, u50, u51, u52, u53, u54, u55, u56, u57, u58, u59, u60, u61, u62, u63, u64, u65, u66, u67, u68, u69, u70, u71, u72, u73, u74, u75, u76, u77, u78, u79, u80, u81, .bool false, .tuple #[.int .i64 lo, .int .i64 hi], .pointer (some ⟨b, 0, none⟩), .int .u8 kd, .tuple #[.int .i64 lo, .int .i64 hi], .int .i64 lo, .int .i64 hi, x89, x90, x91, x92, x93, x94, x95, x96, x97, x98, x99, x100, x101, x102, x103, x104, x105, x106, x107, x108, x109, x110, x111, x112, x113, x114, x115, v, u117, u118, u119, u120, u121, u122, u123, u124, u125, u126, u127, u128, u129, u130, u131, u132, u133, u134, u135, u136, u137, u138, u139, u140, u141, u142, u143], []⟩ ∧ w3 = w') ?_ ?_
      · intro J hJ
        have HJ := Lib.hid hJ
        clear hJ
        simp only [List.take_succ_cons, List.take_zero]
        cases gp with
        | true =>
          go_wp2_with (fail)
          exact HJ.out _ _ ⟨_, _, _, _, _, _, _, _, _, _, _, by rw [← HGo.out]; rfl, rfl, rfl⟩
        | false =>
          cases uo with
          | true =>
            go_wp2_with (refine (in_r _ _ _ fo _ HFo.out).mono ?_; rintro e' w9 ⟨rfl, rfl⟩)
            exact HJ.out _ _ ⟨_, _, _, _, _, _, _, _, _, _, _, by rw [← HGo.out]; rfl, rfl, rfl⟩
          | false =>
            go_wp2_with (fail)
            exact HJ.out _ _ ⟨_, _, _, _, _, _, _, _, _, _, _, by rw [← HGo.out]; rfl, rfl, rfl⟩
      rintro _ _ ⟨v, x106, x107, x108, x109, x110, x111, x112, x113, x114, x115, rfl, rfl, rfl⟩
      simp only [List.drop_succ_cons, List.drop_zero]
      refine wpList_cut_at 12 (fun a' w' => ∃ v x116 x117 x118 x119 x120 x121 x122 x123 x124 x125 x126 x127, v = .bool gr ∧ a' = ⟨#[av, .pointer (some ⟨b, 0, none⟩), .int .i64 0, .pointer (some ⟨u, 0, none⟩), .bool true, .int .i64 lo, .int .i64 hi, u7, u8, u9, u10, u11, u12, u13, u14, u15, u16, u17, u18, u19, u20, u21, u22, u23, u24, u25, u26, u27, u28, u29, u30, u31, u32, u33, u34, u35, u36, u37, u38, u39, u40, u41, u42, u43, u44, u45, u46, u47, u48, u49, u50, u51, u52, u53, u54, u55, u56, u57, u58, u59, u60, u61, u62, u63, u64, u65, u66, u67, u68, u69, u70, u71, u72, u73, u74, u75, u76, u77, u78, u79, u80, u81, .bool false, .tuple #[.int .i64 lo, .int .i64 hi], .pointer (some ⟨b, 0, none⟩), .int .u8 kd, .tuple #[.int .i64 lo, .int .i64 hi], .int .i64 lo, .int .i64 hi, x89, x90, x91, x92, x93, x94, x95, x96, x97, x98, x99, x100, x101, x102, x103, x104, x105, x106, x107, x108, x109, x110, x111, x112, x113, x114, x115, x116, x117, x118, x119, x120, x121, x122, x123, x124, x125, x126, x127, v, u129, u130, u131, u132, u133, u134, u135, u136, u137, u138, u139, u140, u141, u142, u143], []⟩ ∧ w3 = w') ?_ ?_
      · intro J hJ
        have HJ := Lib.hid hJ
        clear hJ
        simp only [List.take_succ_cons, List.take_zero]
        cases go with
        | true =>
          go_wp2_with (fail)
          exact HJ.out _ _ ⟨_, _, _, _, _, _, _, _, _, _, _, _, _, by rw [← HGr.out]; rfl, rfl, rfl⟩
        | false =>
          cases ur with
          | true =>
            go_wp2_with (refine (in_r _ _ _ fr _ HFr.out).mono ?_; rintro e' w9 ⟨rfl, rfl⟩)
            exact HJ.out _ _ ⟨_, _, _, _, _, _, _, _, _, _, _, _, _, by rw [← HGr.out]; rfl, rfl, rfl⟩
          | false =>
            go_wp2_with (fail)
            exact HJ.out _ _ ⟨_, _, _, _, _, _, _, _, _, _, _, _, _, by rw [← HGr.out]; rfl, rfl, rfl⟩
      rintro _ _ ⟨v, x116, x117, x118, x119, x120, x121, x122, x123, x124, x125, x126, x127, rfl, rfl, rfl⟩
      simp only [List.drop_succ_cons, List.drop_zero]
      cases gr with
      | true =>
        go_wp2_with (fail)
        go_meet
        case rel => exact ⟨by rw [← HGv.out]; rfl, rfl⟩
      | false =>
        cases uv with
        | true =>
          go_wp2_with (refine (in_r _ _ _ fv _ HFv.out).mono ?_; rintro e' w9 ⟨rfl, rfl⟩)
          go_meet
          case rel => exact ⟨by rw [← HGv.out]; rfl, rfl⟩
        | false =>
          go_wp2_with (fail)
          go_meet
          case rel => exact ⟨by rw [← HGv.out]; rfl, rfl⟩
    case rest =>
    obtain ⟨rfl, rfl⟩ := hcut
    cases gv with
    | true =>
      have HRR := Lib.hid (show R = 2 by rw [HR2.out]; rfl)
      go_wp2_with (fail)
      go_ret
      rw [HRR.out]
      exact ⟨rfl, HB3.out⟩
    | false =>
      cases ub with
      | true =>
        have HRR := Lib.hid (show R = chkD e.ball by rw [HR2.out]; rfl)
        have hdb := HDB.out
        have d7 := hdb 7
        have d8 := hdb 8
        have d9 := hdb 9
        have d10 := hdb 10
        have d11 := hdb 11
        have d12 := hdb 12
        have d13 := hdb 13
        have d14 := hdb 14
        have d15 := hdb 15
        have d16 := hdb 16
        have d17 := hdb 17
        have d18 := hdb 18
        simp only [evE, delE, List.cons_append, List.nil_append, List.getElem?_cons_succ, List.getElem?_cons_zero] at d7 d8 d9 d10 d11 d12 d13 d14 d15 d16 d17 d18
        clear hdb
        go_wp2_with (fail)
        refine (chk_r e.ball _).mono ?_
        rintro e' w9 ⟨rfl, hb9⟩
        have HB9 := Lib.hid (cur_step1 HB3.out hb9)
        clear hb9
        go_wp2_with (fail)
        go_ret
        rw [HRR.out]
        exact ⟨rfl, HB9.out⟩
      | false =>
        have HRR := Lib.hid (show R = 0 by rw [HR2.out]; rfl)
        go_wp2_with (fail)
        go_ret
        rw [HRR.out]
        exact ⟨rfl, HB3.out⟩
theorem uses_r (k : Int) (h : 1 ≤ k ∧ k ≤ 16) (w : World) : Calls Tryz.prog 37 #[.int .u8 k] w fun e w' => e = .returned (.tuple #[.agg #[.bool (usesB k 115), .bool (usesB k 112), .bool (usesB k 111), .bool (usesB k 121), .bool (usesB k 114), .bool (usesB k 118), .bool (usesB k 98)], .bool true]) ∧ Below w.heap.size w w' := by
  rcases (by omega : k = 1 ∨ k = 2 ∨ k = 3 ∨ k = 4 ∨ k = 5 ∨ k = 6 ∨ k = 7 ∨ k = 8 ∨ k = 9 ∨ k = 10 ∨ k = 11 ∨ k = 12 ∨ k = 13 ∨ k = 14 ∨ k = 15 ∨ k = 16) with rfl | rfl | rfl | rfl | rfl | rfl | rfl | rfl | rfl | rfl | rfl | rfl | rfl | rfl | rfl | rfl
  · exact uses_r1 w
  · exact uses_r2 w
  · exact uses_r3 w
  · exact uses_r4 w
  · exact uses_r5 w
  · exact uses_r6 w
  · exact uses_r7 w
  · exact uses_r8 w
  · exact uses_r9 w
  · exact uses_r10 w
  · exact uses_r11 w
  · exact uses_r12 w
  · exact uses_r13 w
  · exact uses_r14 w
  · exact uses_r15 w
  · exact uses_r16 w
theorem chkU_is (e : Ev) (h : 1 ≤ e.kind ∧ e.kind ≤ 16) : chkU (usesB e.kind 115) (usesB e.kind 112) (usesB e.kind 111) (usesB e.kind 121) (usesB e.kind 114) (usesB e.kind 118) (usesB e.kind 98) e = chkE e := by
  have h98 : usesB e.kind 98 = true ↔ e.kind = 4 := by
    rcases (by omega : e.kind = 1 ∨ e.kind = 2 ∨ e.kind = 3 ∨ e.kind = 4 ∨ e.kind = 5 ∨ e.kind = 6 ∨ e.kind = 7 ∨ e.kind = 8 ∨ e.kind = 9 ∨ e.kind = 10 ∨ e.kind = 11 ∨ e.kind = 12 ∨ e.kind = 13 ∨ e.kind = 14 ∨ e.kind = 15 ∨ e.kind = 16) with h | h | h | h | h | h | h | h | h | h | h | h | h | h | h | h <;> rw [h] <;> decide
  unfold chkU chkE
  have e0 : (decide (e.kind < 1) || decide (16 < e.kind)) = false := by
    rw [Bool.or_eq_false_iff, decide_eq_false_iff_not, decide_eq_false_iff_not]; omega
  rw [e0]
  have e1 : (allC.any fun c => nzF e c && !usesB e.kind c) = (((((((!usesB e.kind 115 && e.side != 0) || (!usesB e.kind 112 && e.player != 0)) || (!usesB e.kind 111 && e.other != 0)) || (!usesB e.kind 121 && e.yes)) || (!usesB e.kind 114 && e.runs != 0)) || (!usesB e.kind 118 && e.overs != 0)) || (!usesB e.kind 98 && decide (e.ball ≠ zeroD))) := by
    simp [allC, nzF, Bool.and_comm, Bool.or_assoc]
  have e2 : (allC.any fun c => !fitF e c && usesB e.kind c) = (((((usesB e.kind 115 && !btw e.side 1 2) || (usesB e.kind 112 && !btw e.player 1 11)) || (usesB e.kind 111 && !btw e.other 1 11)) || (usesB e.kind 114 && !btw e.runs (loR e.kind) (hiR e.kind))) || (usesB e.kind 118 && !btw e.overs 0 90)) := by
    simp [allC, fitF, Bool.and_comm, Bool.or_assoc]
  have e3 : (if usesB e.kind 98 = true then chkD e.ball else 0) = if e.kind = 4 then chkD e.ball else 0 := by
    by_cases h4 : e.kind = 4
    · rw [if_pos h4, if_pos (h98.2 h4)]
    · rw [if_neg h4, if_neg (fun h => h4 (h98.1 h))]
  rw [e1, e2, e3, if_neg Bool.false_ne_true]
theorem chre (e : Ev) (w : World) : Calls Tryz.prog 13 #[evV e] w fun e' w' => e' = .returned (.int .i64 (chkE e)) ∧ Below w.heap.size w w' := by
  by_cases h : 1 ≤ e.kind ∧ e.kind ≤ 16
  · rw [← chkU_is e h]
    exact chr_g e _ _ _ _ _ _ _ (uses_r e.kind h) w
  · have HR := Lib.hid (show chkE e = 3 by unfold chkE; rw [if_pos (by simp only [Bool.or_eq_true, decide_eq_true_eq]; omega)])
    obtain ⟨w1, hw1⟩ : ∃ y, w.alloc (.cells (evE e).toArray 29) = y := ⟨_, rfl⟩
    have HB1 := Lib.hid (show Below w.heap.size w w1 by rw [← hw1]; exact cur_new _ _)
    have HK1 := Lib.hid (show Blk w1 w.heap.size 29 (evE e) by rw [← hw1]; exact Blk.new w _ _)
    have SW1 := Lib.hid (show w.alloc (.cells #[.int .u8 e.kind, .int .i64 e.side, .int .i64 e.player, .int .i64 e.other, .bool e.yes, .int .i64 e.runs, .int .i64 e.overs, .int .u8 e.ball.ty, .int .u8 e.ball.src, .int .i64 e.ball.runs, .int .i64 e.ball.short, .int .i64 e.ball.bd, .bool e.ball.cr, .int .u8 e.ball.how, .int .i64 e.ball.vic, .int .i64 e.ball.fd, .int .i64 e.ball.sd, .bool e.ball.sub, .int .i64 e.ball.sec] 29) = w1 by rw [← hw1]; rfl)
    obtain ⟨b, hb⟩ : ∃ b, w.heap.size = b := ⟨_, rfl⟩
    rw [hb] at HK1
    have HBB := Lib.hid hb
    unfold evV
    have k0 : w1.cell? ⟨b, 0, none⟩ = some (.int .u8 e.kind) := HK1.out.cell 0
    have HH := Lib.hid (show e.kind < 1 ∨ 16 < e.kind by omega)
    clear hw1 hb h
    go_enter Tryz.func13, Tryz.ntmps13
    go_wp2_with (rw [SW1.out, HBB.out])
    refine (uses_r0 e.kind HH.out w1).mono ?_
    rintro e' w2 ⟨rfl, hb2⟩
    have HB2 := Lib.hid (cur_step1 (cur_step1 HB1.out hb2) (cur_new w2 (.cells #[.bool false, .bool false, .bool false, .bool false, .bool false, .bool false, .bool false] 73)))
    clear hb2
    go_wp2_with (fail)
    go_ret
    rw [HR.out]
    exact ⟨rfl, HB2.out⟩
end

section
/-! Chapter 8: Text of the reference. -/
open Go.RowKit
set_option maxRecDepth 100000
set_option maxHeartbeats 8000000
theorem okE_bnd {e : Ev} (h : OkE e) : (0 ≤ e.side ∧ e.side ≤ 1000000) ∧ (0 ≤ e.player ∧ e.player ≤ 1000000) ∧ (0 ≤ e.other ∧ e.other ≤ 1000000) ∧ (0 ≤ e.runs ∧ e.runs ≤ 1000000) ∧ (0 ≤ e.overs ∧ e.overs ≤ 1000000) := by
  have key : ∀ (n lo hi : Int) (b : Bool), 0 ≤ lo → hi ≤ 1000000 → (b = false → (n != 0) = false) → (b = true → btw n lo hi = true) → 0 ≤ n ∧ n ≤ 1000000 := by
    intro n lo hi b h0 h1 hz hf
    cases b with
    | false => have := hz rfl; simp at this; omega
    | true => have := hf rfl; unfold btw at this; simp at this; omega
  have hlo : 0 ≤ loR e.kind := by unfold loR; split <;> (try split) <;> decide
  have hhi : hiR e.kind ≤ 1000000 := by unfold hiR; split <;> (try split) <;> decide
  refine ⟨key _ 1 2 (usesB e.kind 115) (by decide) (by decide) (h.zero 115 (by decide)) (h.fits 115 (by decide)), key _ 1 11 (usesB e.kind 112) (by decide) (by decide) (h.zero 112 (by decide)) (h.fits 112 (by decide)), key _ 1 11 (usesB e.kind 111) (by decide) (by decide) (h.zero 111 (by decide)) (h.fits 111 (by decide)), key _ _ _ (usesB e.kind 114) hlo hhi (h.zero 114 (by decide)) (h.fits 114 (by decide)), key _ 0 90 (usesB e.kind 118) (by decide) (by decide) (h.zero 118 (by decide)) (h.fits 118 (by decide))⟩
theorem dec_r8 (x : Int) (t : ByteArray) (h0 : 0 ≤ x) (h1 : x ≤ 1000000) (ht : sA (dcB x) = t) (w : World) : Calls Tryz.prog 30 #[.int .i64 x] w fun e w' => e = .returned (.string t) ∧ Below w.heap.size w w' := by
  obtain ⟨n, rfl⟩ : ∃ n : Nat, x = n := ⟨x.toNat, by omega⟩
  rw [← ht]
  exact decimal_r n (by omega) w
theorem choose_r (y : Bool) (a b : ByteArray) (w : World) : Calls Tryz.prog 31 #[.bool y, .string a, .string b] w fun e w' => e = .returned (.string (if y then a else b)) ∧ w = w' := by
  cases y
  · go_enter Tryz.func31, Tryz.ntmps31
    go_wp2_with fail
    go_ret
    exact ⟨rfl, rfl⟩
  · go_enter Tryz.func31, Tryz.ntmps31
    go_wp2_with fail
    go_ret
    exact ⟨rfl, rfl⟩
theorem txk_1y (s p o : Int) (y : Bool) (r v : Int) (b : Del) : (([84, 79, 83, 83, 32] ++ dcB s) ++ [32, 66, 65, 84]) = txtE ⟨1, s, p, o, true, r, v, b⟩ := by
  simp [txtE, wordsE, word0, wordL, wordT, fldsL, fldsT, fieldL, joinS, yesL, yesT, noL, noT, sTO]
theorem txk_1n (s p o : Int) (y : Bool) (r v : Int) (b : Del) : (([84, 79, 83, 83, 32] ++ dcB s) ++ [32, 70, 73, 69, 76, 68]) = txtE ⟨1, s, p, o, false, r, v, b⟩ := by
  simp [txtE, wordsE, word0, wordL, wordT, fldsL, fldsT, fieldL, joinS, yesL, yesT, noL, noT, sTO]
theorem txk_2 (s p o : Int) (y : Bool) (r v : Int) (b : Del) : ((([79, 80, 69, 78, 32] ++ dcB p) ++ [32]) ++ dcB o) = txtE ⟨2, s, p, o, y, r, v, b⟩ := by
  simp [txtE, wordsE, word0, wordL, wordT, fldsL, fldsT, fieldL, joinS, yesL, yesT, noL, noT, sTO]
theorem txk_3 (s p o : Int) (y : Bool) (r v : Int) (b : Del) : ([66, 79, 87, 76, 32] ++ dcB p) = txtE ⟨3, s, p, o, y, r, v, b⟩ := by
  simp [txtE, wordsE, word0, wordL, wordT, fldsL, fldsT, fieldL, joinS, yesL, yesT, noL, noT, sTO]
theorem txk_4 (s p o : Int) (y : Bool) (r v : Int) (b : Del) : ([66, 65, 76, 76, 32] ++ prtD b) = txtE ⟨4, s, p, o, y, r, v, b⟩ := by
  simp [txtE, wordsE, word0, wordL, wordT, fldsL, fldsT, fieldL, joinS, yesL, yesT, noL, noT, sTO]
theorem txk_5y (s p o : Int) (y : Bool) (r v : Int) (b : Del) : ([84, 73, 77, 69, 79, 85, 84, 32] ++ dcB p) = txtE ⟨5, s, p, o, true, r, v, b⟩ := by
  simp [txtE, wordsE, word0, wordL, wordT, fldsL, fldsT, fieldL, joinS, yesL, yesT, noL, noT, sTO]
theorem txk_5n (s p o : Int) (y : Bool) (r v : Int) (b : Del) : ([69, 78, 84, 69, 82, 32] ++ dcB p) = txtE ⟨5, s, p, o, false, r, v, b⟩ := by
  simp [txtE, wordsE, word0, wordL, wordT, fldsL, fldsT, fieldL, joinS, yesL, yesT, noL, noT, sTO]
theorem txk_6y (s p o : Int) (y : Bool) (r v : Int) (b : Del) : (([82, 69, 84, 73, 82, 69, 32] ++ dcB p) ++ [32, 72, 85, 82, 84]) = txtE ⟨6, s, p, o, true, r, v, b⟩ := by
  simp [txtE, wordsE, word0, wordL, wordT, fldsL, fldsT, fieldL, joinS, yesL, yesT, noL, noT, sTO]
theorem txk_6n (s p o : Int) (y : Bool) (r v : Int) (b : Del) : (([82, 69, 84, 73, 82, 69, 32] ++ dcB p) ++ [32, 79, 85, 84]) = txtE ⟨6, s, p, o, false, r, v, b⟩ := by
  simp [txtE, wordsE, word0, wordL, wordT, fldsL, fldsT, fieldL, joinS, yesL, yesT, noL, noT, sTO]
theorem txk_7 (s p o : Int) (y : Bool) (r v : Int) (b : Del) : ([70, 73, 69, 76, 68, 32] ++ dcB r) = txtE ⟨7, s, p, o, y, r, v, b⟩ := by
  simp [txtE, wordsE, word0, wordL, wordT, fldsL, fldsT, fieldL, joinS, yesL, yesT, noL, noT, sTO]
theorem txk_8 (s p o : Int) (y : Bool) (r v : Int) (b : Del) : ([75, 69, 69, 80, 69, 82, 32] ++ dcB p) = txtE ⟨8, s, p, o, y, r, v, b⟩ := by
  simp [txtE, wordsE, word0, wordL, wordT, fldsL, fldsT, fieldL, joinS, yesL, yesT, noL, noT, sTO]
theorem txk_9y (s p o : Int) (y : Bool) (r v : Int) (b : Del) : (([83, 85, 66, 32] ++ dcB p) ++ [32, 79, 78]) = txtE ⟨9, s, p, o, true, r, v, b⟩ := by
  simp [txtE, wordsE, word0, wordL, wordT, fldsL, fldsT, fieldL, joinS, yesL, yesT, noL, noT, sTO]
theorem txk_9n (s p o : Int) (y : Bool) (r v : Int) (b : Del) : (([83, 85, 66, 32] ++ dcB p) ++ [32, 79, 70, 70]) = txtE ⟨9, s, p, o, false, r, v, b⟩ := by
  simp [txtE, wordsE, word0, wordL, wordT, fldsL, fldsT, fieldL, joinS, yesL, yesT, noL, noT, sTO]
theorem txk_10 (s p o : Int) (y : Bool) (r v : Int) (b : Del) : [78, 69, 87, 66, 65, 76, 76] = txtE ⟨10, s, p, o, y, r, v, b⟩ := by
  simp [txtE, wordsE, word0, wordL, wordT, fldsL, fldsT, fieldL, joinS, yesL, yesT, noL, noT, sTO]
theorem txk_11 (s p o : Int) (y : Bool) (r v : Int) (b : Del) : ([68, 69, 67, 76, 65, 82, 69, 32] ++ dcB s) = txtE ⟨11, s, p, o, y, r, v, b⟩ := by
  simp [txtE, wordsE, word0, wordL, wordT, fldsL, fldsT, fieldL, joinS, yesL, yesT, noL, noT, sTO]
theorem txk_12y (s p o : Int) (y : Bool) (r v : Int) (b : Del) : (([70, 79, 76, 76, 79, 87, 32] ++ dcB s) ++ [32, 89, 69, 83]) = txtE ⟨12, s, p, o, true, r, v, b⟩ := by
  simp [txtE, wordsE, word0, wordL, wordT, fldsL, fldsT, fieldL, joinS, yesL, yesT, noL, noT, sTO]
theorem txk_12n (s p o : Int) (y : Bool) (r v : Int) (b : Del) : (([70, 79, 76, 76, 79, 87, 32] ++ dcB s) ++ [32, 78, 79]) = txtE ⟨12, s, p, o, false, r, v, b⟩ := by
  simp [txtE, wordsE, word0, wordL, wordT, fldsL, fldsT, fieldL, joinS, yesL, yesT, noL, noT, sTO]
theorem txk_13 (s p o : Int) (y : Bool) (r v : Int) (b : Del) : ((([80, 69, 78, 65, 76, 84, 89, 32] ++ dcB s) ++ [32]) ++ dcB r) = txtE ⟨13, s, p, o, y, r, v, b⟩ := by
  simp [txtE, wordsE, word0, wordL, wordT, fldsL, fldsT, fieldL, joinS, yesL, yesT, noL, noT, sTO]
theorem txk_14y (s p o : Int) (y : Bool) (r v : Int) (b : Del) : (([82, 69, 86, 73, 69, 87, 32] ++ dcB s) ++ [32, 75, 69, 80, 84]) = txtE ⟨14, s, p, o, true, r, v, b⟩ := by
  simp [txtE, wordsE, word0, wordL, wordT, fldsL, fldsT, fieldL, joinS, yesL, yesT, noL, noT, sTO]
theorem txk_14n (s p o : Int) (y : Bool) (r v : Int) (b : Del) : (([82, 69, 86, 73, 69, 87, 32] ++ dcB s) ++ [32, 76, 79, 83, 84]) = txtE ⟨14, s, p, o, false, r, v, b⟩ := by
  simp [txtE, wordsE, word0, wordL, wordT, fldsL, fldsT, fieldL, joinS, yesL, yesT, noL, noT, sTO]
theorem txk_15 (s p o : Int) (y : Bool) (r v : Int) (b : Del) : ((([82, 69, 86, 73, 83, 69, 32] ++ dcB r) ++ [32]) ++ dcB v) = txtE ⟨15, s, p, o, y, r, v, b⟩ := by
  simp [txtE, wordsE, word0, wordL, wordT, fldsL, fldsT, fieldL, joinS, yesL, yesT, noL, noT, sTO]
theorem txk_16 (s p o : Int) (y : Bool) (r v : Int) (b : Del) : [83, 84, 79, 80] = txtE ⟨16, s, p, o, y, r, v, b⟩ := by
  simp [txtE, wordsE, word0, wordL, wordT, fldsL, fldsT, fieldL, joinS, yesL, yesT, noL, noT, sTO]
theorem textr8 (e : Ev) (hh : 0 ≤ e.ball.how) (w : World) : Calls Tryz.prog 11 #[evV e] w fun e' w' => e' = .returned (.tuple #[.string (sA (TxtE e).1), .int .i64 (TxtE e).2]) ∧ Below w.heap.size w w' := by
  obtain ⟨w1, hw1⟩ : ∃ y, w.alloc (.cells (evE e).toArray 29) = y := ⟨_, rfl⟩
  have HB1 := Lib.hid (show Below w.heap.size w w1 by rw [← hw1]; exact cur_new _ _)
  have HK1 := Lib.hid (show Blk w1 w.heap.size 29 (evE e) by rw [← hw1]; exact Blk.new w _ _)
  have SW1 := Lib.hid (show w.alloc (.cells #[.int .u8 e.kind, .int .i64 e.side, .int .i64 e.player, .int .i64 e.other, .bool e.yes, .int .i64 e.runs, .int .i64 e.overs, .int .u8 e.ball.ty, .int .u8 e.ball.src, .int .i64 e.ball.runs, .int .i64 e.ball.short, .int .i64 e.ball.bd, .bool e.ball.cr, .int .u8 e.ball.how, .int .i64 e.ball.vic, .int .i64 e.ball.fd, .int .i64 e.ball.sd, .bool e.ball.sub, .int .i64 e.ball.sec] 29) = w1 by rw [← hw1]; rfl)
  obtain ⟨b, hb⟩ : ∃ b, w.heap.size = b := ⟨_, rfl⟩
  rw [hb] at HK1
  have HBB := Lib.hid hb
  have HH := Lib.hid hh
  unfold evV
  clear hw1 hb hh
  go_enter Tryz.func11, Tryz.ntmps11
  go_wp2_with (first | rw [SW1.out, HBB.out] | (refine wpList_loadC rfl _ 29 rfl b 29 (evE e) _ rfl (by rfl) (by rfl) (by rfl) HK1.out ?_))
  refine (chre e w1).mono ?_
  rintro e' w2 ⟨rfl, hb2⟩
  have HB2 := Lib.hid (cur_step1 HB1.out hb2)
  have HK2 := Lib.hid (HK1.out.to hb2)
  clear hb2
  generalize Value.agg #[.int .u8 e.kind, .int .i64 e.side, .int .i64 e.player, .int .i64 e.other, .bool e.yes, .int .i64 e.runs, .int .i64 e.overs, .int .u8 e.ball.ty, .int .u8 e.ball.src, .int .i64 e.ball.runs, .int .i64 e.ball.short, .int .i64 e.ball.bd, .bool e.ball.cr, .int .u8 e.ball.how, .int .i64 e.ball.vic, .int .i64 e.ball.fd, .int .i64 e.ball.sd, .bool e.ball.sub, .int .i64 e.ball.sec] = av
  by_cases hc : chkE e = 0
  · have HT := Lib.hid (show TxtE e = (txtE e, 0) by unfold TxtE; rw [if_neg (by simpa using hc)])
    have HOK := Lib.hid (okE_of hc)
    rw [hc]
    clear hc
    obtain ⟨⟨s0, s1⟩, ⟨p0, p1⟩, ⟨o0, o1⟩, ⟨r0, r1⟩, ⟨v0, v1⟩⟩ := okE_bnd HOK.out
    have HBN := Lib.hid (And.intro (And.intro s0 s1) (And.intro (And.intro p0 p1) (And.intro (And.intro o0 o1) (And.intro (And.intro r0 r1) (And.intro v0 v1)))))
    have hlt := HK2.out.lt
    obtain ⟨tts, hts⟩ : ∃ y, sA (dcB e.side) = y := ⟨_, rfl⟩
    have HTs := Lib.hid hts
    have zs : tts.size ≤ 7 := by rw [← hts, sA_sz]; exact dcB_len7 (by omega)
    have ks : ∀ s : Wd w2 [], s.w.cell? ⟨b, 1, none⟩ = some (.int .i64 e.side) := fun s => (s.h.1.cell (p := ⟨b, 1, none⟩) hlt).trans (HK2.out.cell 1)
    obtain ⟨ttp, htp⟩ : ∃ y, sA (dcB e.player) = y := ⟨_, rfl⟩
    have HTp := Lib.hid htp
    have zp : ttp.size ≤ 7 := by rw [← htp, sA_sz]; exact dcB_len7 (by omega)
    have kp : ∀ s : Wd w2 [], s.w.cell? ⟨b, 2, none⟩ = some (.int .i64 e.player) := fun s => (s.h.1.cell (p := ⟨b, 2, none⟩) hlt).trans (HK2.out.cell 2)
    obtain ⟨tto, hto⟩ : ∃ y, sA (dcB e.other) = y := ⟨_, rfl⟩
    have HTo := Lib.hid hto
    have zo : tto.size ≤ 7 := by rw [← hto, sA_sz]; exact dcB_len7 (by omega)
    have ko : ∀ s : Wd w2 [], s.w.cell? ⟨b, 3, none⟩ = some (.int .i64 e.other) := fun s => (s.h.1.cell (p := ⟨b, 3, none⟩) hlt).trans (HK2.out.cell 3)
    obtain ⟨ttr, htr⟩ : ∃ y, sA (dcB e.runs) = y := ⟨_, rfl⟩
    have HTr := Lib.hid htr
    have zr : ttr.size ≤ 7 := by rw [← htr, sA_sz]; exact dcB_len7 (by omega)
    have kr : ∀ s : Wd w2 [], s.w.cell? ⟨b, 5, none⟩ = some (.int .i64 e.runs) := fun s => (s.h.1.cell (p := ⟨b, 5, none⟩) hlt).trans (HK2.out.cell 5)
    obtain ⟨ttv, htv⟩ : ∃ y, sA (dcB e.overs) = y := ⟨_, rfl⟩
    have HTv := Lib.hid htv
    have zv : ttv.size ≤ 7 := by rw [← htv, sA_sz]; exact dcB_len7 (by omega)
    have kv : ∀ s : Wd w2 [], s.w.cell? ⟨b, 6, none⟩ = some (.int .i64 e.overs) := fun s => (s.h.1.cell (p := ⟨b, 6, none⟩) hlt).trans (HK2.out.cell 6)
    have hex : ∀ s : Wd w2 [], ∃ s' : Wd w2 [], s.w = s'.w := fun s => ⟨s, rfl⟩
    have K3 : Keep w2 w2 [] := Keep.start (Below.refl _ _) (by simp)
    haveI hne : Nonempty (Wd w2 []) := ⟨⟨_, K3⟩⟩
    clear s0 s1 p0 p1 o0 o1 r0 r1 v0 v1 hts htp hto htr htv
    go_upto_region 4 with (fail)
    refine wp_region_wd w2 [] (by kernel_rfl) (by kernel_rfl) K3.drew ?_
    repeat (go_big_quiet_step ((go_at_call 30; (first | (refine (dec_r8 e.side tts (by have := HBN.out; omega) (by have := HBN.out; omega) HTs.out _).mono ?_) | (refine (dec_r8 e.player ttp (by have := HBN.out; omega) (by have := HBN.out; omega) HTp.out _).mono ?_) | (refine (dec_r8 e.other tto (by have := HBN.out; omega) (by have := HBN.out; omega) HTo.out _).mono ?_)); rintro e' w4 ⟨rfl, hb4⟩; exact ⟨rfl, ⟨w4, (Wd.h _).to hb4⟩, rfl⟩)))
    refine wpQuiet_nil ?_
    rintro w4 ⟨s4, hs4⟩
    have K4 : Keep w2 w4 [] := by rw [hs4]; exact s4.h
    clear hs4 s4
    (try simp only [])
    go_upto_region 5 with (fail)
    refine wp_region_wd w2 [] (by kernel_rfl) (by kernel_rfl) K4.drew ?_
    repeat (go_big_quiet_step ((go_at_call 30; (first | (refine (dec_r8 e.runs ttr (by have := HBN.out; omega) (by have := HBN.out; omega) HTr.out _).mono ?_) | (refine (dec_r8 e.overs ttv (by have := HBN.out; omega) (by have := HBN.out; omega) HTv.out _).mono ?_)); rintro e' w4 ⟨rfl, hb4⟩; exact ⟨rfl, ⟨w4, (Wd.h _).to hb4⟩, rfl⟩)))
    refine wpQuiet_nil ?_
    rintro w5 ⟨s5, hs5⟩
    have K5 : Keep w2 w5 [] := by rw [hs5]; exact s5.h
    clear hs5 s5 K4 K3 hex hne ks kp ko kr kv hlt
    (try simp only [])
    have HB5 := Lib.hid (cur_step1 HB2.out K5.1)
    have HK5 := Lib.hid (HK2.out.to K5.1)
    clear K5
    have hlt := HK5.out.lt
    have d4 : w5.cell? ⟨b, 4, none⟩ = some (.bool e.yes) := HK5.out.cell 4
    have d0 : w5.cell? ⟨b, 0, none⟩ = some (.int .u8 e.kind) := HK5.out.cell 0
    have hkd := HOK.out.kind
    obtain ⟨k, s, p, o, y, r, v, bd⟩ := e
    dsimp only at *
    rcases (by omega : k = 1 ∨ k = 2 ∨ k = 3 ∨ k = 4 ∨ k = 5 ∨ k = 6 ∨ k = 7 ∨ k = 8 ∨ k = 9 ∨ k = 10 ∨ k = 11 ∨ k = 12 ∨ k = 13 ∨ k = 14 ∨ k = 15 ∨ k = 16) with rfl | rfl | rfl | rfl | rfl | rfl | rfl | rfl | rfl | rfl | rfl | rfl | rfl | rfl | rfl | rfl
    · cases y
      · have q0 : (9223372036854775807 < 5 + tts.size) = False := by simp; omega
        have q1 : (9223372036854775807 < 5 + tts.size + 6) = False := by simp; omega
        go_wp2_with (fail)
        refine (choose_r _ _ _ _).mono ?_
        rintro e' w9 ⟨rfl, rfl⟩
        (try simp only [if_true, if_false, Bool.false_eq_true])
        go_wp2_with (fail)
        go_ret2
        refine ⟨?_, HB5.out⟩
        rw [HT.out]
        dsimp only
        rw [← txk_1n s p o false r v bd, ← HTs.out, ← sA_app, ← sA_app]
        rfl
      · have q0 : (9223372036854775807 < 5 + tts.size) = False := by simp; omega
        have q1 : (9223372036854775807 < 5 + tts.size + 4) = False := by simp; omega
        go_wp2_with (fail)
        refine (choose_r _ _ _ _).mono ?_
        rintro e' w9 ⟨rfl, rfl⟩
        (try simp only [if_true, if_false, Bool.false_eq_true])
        go_wp2_with (fail)
        go_ret2
        refine ⟨?_, HB5.out⟩
        rw [HT.out]
        dsimp only
        rw [← txk_1y s p o true r v bd, ← HTs.out, ← sA_app, ← sA_app]
        rfl
    · have q0 : (9223372036854775807 < 5 + ttp.size) = False := by simp; omega
      have q1 : (9223372036854775807 < 5 + ttp.size + 1) = False := by simp; omega
      have q2 : (9223372036854775807 < 5 + ttp.size + 1 + tto.size) = False := by simp; omega
      go_wp2_with (fail)
      go_ret2
      refine ⟨?_, HB5.out⟩
      rw [HT.out]
      dsimp only
      rw [← txk_2 s p o y r v bd, ← HTp.out, ← HTo.out, ← sA_app, ← sA_app, ← sA_app]
      rfl
    · have q0 : (9223372036854775807 < 5 + ttp.size) = False := by simp; omega
      go_wp2_with (fail)
      go_ret2
      refine ⟨?_, HB5.out⟩
      rw [HT.out]
      dsimp only
      rw [← txk_3 s p o y r v bd, ← HTp.out, ← sA_app]
      rfl
    · obtain ⟨tb, htb⟩ : ∃ y, sA (prtD bd) = y := ⟨_, rfl⟩
      have HTb := Lib.hid htb
      have h60 : (prtD bd).length ≤ 60 := prt_len (okD_of (HOK.out.ball rfl))
      have zb : tb.size ≤ 100 := by rw [← htb, sA_sz]; omega
      have d7 := HK5.out.cell 7
      have d8 := HK5.out.cell 8
      have d9 := HK5.out.cell 9
      have d10 := HK5.out.cell 10
      have d11 := HK5.out.cell 11
      have d12 := HK5.out.cell 12
      have d13 := HK5.out.cell 13
      have d14 := HK5.out.cell 14
      have d15 := HK5.out.cell 15
      have d16 := HK5.out.cell 16
      have d17 := HK5.out.cell 17
      have d18 := HK5.out.cell 18
      simp only [evE, delE, List.cons_append, List.nil_append, List.getElem?_cons_succ, List.getElem?_cons_zero] at d7 d8 d9 d10 d11 d12 d13 d14 d15 d16 d17 d18
      clear htb
      have q0 : (9223372036854775807 < 5 + tb.size) = False := by simp; omega
      go_wp2_with (fail)
      refine (printr_p bd (HOK.out.ball rfl) HH.out _).mono ?_
      rintro e' w9 ⟨rfl, hb9⟩
      have HB9 := Lib.hid (cur_step1 HB5.out hb9)
      rw [HTb.out]
      clear hb9
      go_wp2_with (fail)
      go_ret2
      refine ⟨?_, HB9.out⟩
      rw [HT.out]
      dsimp only
      rw [← txk_4 s p o y r v bd, ← HTb.out, ← sA_app]
      rfl
    · cases y
      · have q0 : (9223372036854775807 < 6 + ttp.size) = False := by simp; omega
        go_wp2_with (fail)
        refine (choose_r _ _ _ _).mono ?_
        rintro e' w9 ⟨rfl, rfl⟩
        (try simp only [if_true, if_false, Bool.false_eq_true])
        go_wp2_with (fail)
        go_ret2
        refine ⟨?_, HB5.out⟩
        rw [HT.out]
        dsimp only
        rw [← txk_5n s p o false r v bd, ← HTp.out, ← sA_app]
        rfl
      · have q0 : (9223372036854775807 < 8 + ttp.size) = False := by simp; omega
        go_wp2_with (fail)
        refine (choose_r _ _ _ _).mono ?_
        rintro e' w9 ⟨rfl, rfl⟩
        (try simp only [if_true, if_false, Bool.false_eq_true])
        go_wp2_with (fail)
        go_ret2
        refine ⟨?_, HB5.out⟩
        rw [HT.out]
        dsimp only
        rw [← txk_5y s p o true r v bd, ← HTp.out, ← sA_app]
        rfl
    · cases y
      · have q0 : (9223372036854775807 < 7 + ttp.size) = False := by simp; omega
        have q1 : (9223372036854775807 < 7 + ttp.size + 4) = False := by simp; omega
        go_wp2_with (fail)
        refine (choose_r _ _ _ _).mono ?_
        rintro e' w9 ⟨rfl, rfl⟩
        (try simp only [if_true, if_false, Bool.false_eq_true])
        go_wp2_with (fail)
        go_ret2
        refine ⟨?_, HB5.out⟩
        rw [HT.out]
        dsimp only
        rw [← txk_6n s p o false r v bd, ← HTp.out, ← sA_app, ← sA_app]
        rfl
      · have q0 : (9223372036854775807 < 7 + ttp.size) = False := by simp; omega
        have q1 : (9223372036854775807 < 7 + ttp.size + 5) = False := by simp; omega
        go_wp2_with (fail)
        refine (choose_r _ _ _ _).mono ?_
        rintro e' w9 ⟨rfl, rfl⟩
        (try simp only [if_true, if_false, Bool.false_eq_true])
        go_wp2_with (fail)
        go_ret2
        refine ⟨?_, HB5.out⟩
        rw [HT.out]
        dsimp only
        rw [← txk_6y s p o true r v bd, ← HTp.out, ← sA_app, ← sA_app]
        rfl
    · have q0 : (9223372036854775807 < 6 + ttr.size) = False := by simp; omega
      go_wp2_with (fail)
      go_ret2
      refine ⟨?_, HB5.out⟩
      rw [HT.out]
      dsimp only
      rw [← txk_7 s p o y r v bd, ← HTr.out, ← sA_app]
      rfl
    · have q0 : (9223372036854775807 < 7 + ttp.size) = False := by simp; omega
      go_wp2_with (fail)
      go_ret2
      refine ⟨?_, HB5.out⟩
      rw [HT.out]
      dsimp only
      rw [← txk_8 s p o y r v bd, ← HTp.out, ← sA_app]
      rfl
    · cases y
      · have q0 : (9223372036854775807 < 4 + ttp.size) = False := by simp; omega
        have q1 : (9223372036854775807 < 4 + ttp.size + 4) = False := by simp; omega
        go_wp2_with (fail)
        refine (choose_r _ _ _ _).mono ?_
        rintro e' w9 ⟨rfl, rfl⟩
        (try simp only [if_true, if_false, Bool.false_eq_true])
        go_wp2_with (fail)
        go_ret2
        refine ⟨?_, HB5.out⟩
        rw [HT.out]
        dsimp only
        rw [← txk_9n s p o false r v bd, ← HTp.out, ← sA_app, ← sA_app]
        rfl
      · have q0 : (9223372036854775807 < 4 + ttp.size) = False := by simp; omega
        have q1 : (9223372036854775807 < 4 + ttp.size + 3) = False := by simp; omega
        go_wp2_with (fail)
        refine (choose_r _ _ _ _).mono ?_
        rintro e' w9 ⟨rfl, rfl⟩
        (try simp only [if_true, if_false, Bool.false_eq_true])
        go_wp2_with (fail)
        go_ret2
        refine ⟨?_, HB5.out⟩
        rw [HT.out]
        dsimp only
        rw [← txk_9y s p o true r v bd, ← HTp.out, ← sA_app, ← sA_app]
        rfl
    · go_wp2_with (fail)
      go_ret2
      refine ⟨?_, HB5.out⟩
      rw [HT.out]
      dsimp only
      rw [← txk_10 s p o y r v bd]
      rfl
    · have q0 : (9223372036854775807 < 8 + tts.size) = False := by simp; omega
      go_wp2_with (fail)
      go_ret2
      refine ⟨?_, HB5.out⟩
      rw [HT.out]
      dsimp only
      rw [← txk_11 s p o y r v bd, ← HTs.out, ← sA_app]
      rfl
    · cases y
      · have q0 : (9223372036854775807 < 7 + tts.size) = False := by simp; omega
        have q1 : (9223372036854775807 < 7 + tts.size + 3) = False := by simp; omega
        go_wp2_with (fail)
        refine (choose_r _ _ _ _).mono ?_
        rintro e' w9 ⟨rfl, rfl⟩
        (try simp only [if_true, if_false, Bool.false_eq_true])
        go_wp2_with (fail)
        go_ret2
        refine ⟨?_, HB5.out⟩
        rw [HT.out]
        dsimp only
        rw [← txk_12n s p o false r v bd, ← HTs.out, ← sA_app, ← sA_app]
        rfl
      · have q0 : (9223372036854775807 < 7 + tts.size) = False := by simp; omega
        have q1 : (9223372036854775807 < 7 + tts.size + 4) = False := by simp; omega
        go_wp2_with (fail)
        refine (choose_r _ _ _ _).mono ?_
        rintro e' w9 ⟨rfl, rfl⟩
        (try simp only [if_true, if_false, Bool.false_eq_true])
        go_wp2_with (fail)
        go_ret2
        refine ⟨?_, HB5.out⟩
        rw [HT.out]
        dsimp only
        rw [← txk_12y s p o true r v bd, ← HTs.out, ← sA_app, ← sA_app]
        rfl
    · have q0 : (9223372036854775807 < 8 + tts.size) = False := by simp; omega
      have q1 : (9223372036854775807 < 8 + tts.size + 1) = False := by simp; omega
      have q2 : (9223372036854775807 < 8 + tts.size + 1 + ttr.size) = False := by simp; omega
      go_wp2_with (fail)
      go_ret2
      refine ⟨?_, HB5.out⟩
      rw [HT.out]
      dsimp only
      rw [← txk_13 s p o y r v bd, ← HTs.out, ← HTr.out, ← sA_app, ← sA_app, ← sA_app]
      rfl
    · cases y
      · have q0 : (9223372036854775807 < 7 + tts.size) = False := by simp; omega
        have q1 : (9223372036854775807 < 7 + tts.size + 5) = False := by simp; omega
        go_wp2_with (fail)
        refine (choose_r _ _ _ _).mono ?_
        rintro e' w9 ⟨rfl, rfl⟩
        (try simp only [if_true, if_false, Bool.false_eq_true])
        go_wp2_with (fail)
        go_ret2
        refine ⟨?_, HB5.out⟩
        rw [HT.out]
        dsimp only
        rw [← txk_14n s p o false r v bd, ← HTs.out, ← sA_app, ← sA_app]
        rfl
      · have q0 : (9223372036854775807 < 7 + tts.size) = False := by simp; omega
        have q1 : (9223372036854775807 < 7 + tts.size + 5) = False := by simp; omega
        go_wp2_with (fail)
        refine (choose_r _ _ _ _).mono ?_
        rintro e' w9 ⟨rfl, rfl⟩
        (try simp only [if_true, if_false, Bool.false_eq_true])
        go_wp2_with (fail)
        go_ret2
        refine ⟨?_, HB5.out⟩
        rw [HT.out]
        dsimp only
        rw [← txk_14y s p o true r v bd, ← HTs.out, ← sA_app, ← sA_app]
        rfl
    · have q0 : (9223372036854775807 < 7 + ttr.size) = False := by simp; omega
      have q1 : (9223372036854775807 < 7 + ttr.size + 1) = False := by simp; omega
      have q2 : (9223372036854775807 < 7 + ttr.size + 1 + ttv.size) = False := by simp; omega
      go_wp2_with (fail)
      go_ret2
      refine ⟨?_, HB5.out⟩
      rw [HT.out]
      dsimp only
      rw [← txk_15 s p o y r v bd, ← HTr.out, ← HTv.out, ← sA_app, ← sA_app, ← sA_app]
      rfl
    · go_wp2_with (fail)
      go_ret2
      refine ⟨?_, HB5.out⟩
      rw [HT.out]
      dsimp only
      rw [← txk_16 s p o y r v bd]
      rfl
  · obtain ⟨v, hv⟩ : ∃ v, chkE e = v := ⟨_, rfl⟩
    have HT := Lib.hid (show TxtE e = ([], v) by unfold TxtE; rw [if_pos hc, hv])
    have gv : (v != 0) = true := by rw [← hv]; simpa using hc
    rw [hv]
    clear hc hv
    go_wp2_with (fail)
    go_ret2
    rw [HT.out]
    exact ⟨rfl, HB2.out⟩
end

section
/-! Chapter 8: TextLog of the reference. -/
open Go.RowKit
set_option maxRecDepth 100000
set_option maxHeartbeats 4000000
def TrR (l : List Ev) (w : World) (sv iv : Value) (wr : World) : Prop := ∃ (k : Nat) (acc : List UInt8), k ≤ l.length ∧ iv = .int .i64 k ∧ sv = .string (sA acc) ∧ logF acc (l.drop k) = logF [] l ∧ acc.length ≤ 201 * k ∧ Below w.heap.size w wr
theorem textlog_r (l : List Ev) (A : Option Addr) (c : Nat) (w : World) (hl : l.length ≤ 1000000) (hh : ∀ e ∈ l, 0 ≤ e.ball.how) (hrd : Rd evE 19 w w.heap.size A l) :
    Calls Tryz.prog 18 #[.slice A l.length c] w fun e' w' => e' = .returned (.tuple #[.string (sA (TxtLog l).1), .int .i64 (TxtLog l).2]) ∧ Below w.heap.size w w' := by
  obtain ⟨R, hR⟩ : ∃ R, TxtLog l = R := ⟨_, rfl⟩
  rw [hR]
  by_cases h4 : 4000 < l.length
  · have HRR := Lib.hid (show R = ([], 9) by rw [← hR]; unfold TxtLog; rw [if_pos h4])
    have g1 : decide (4000 < (l.length : Int)) = true := by simp; omega
    go_enter Tryz.func18, Tryz.ntmps18
    go_wp2_with (fail)
    go_ret2
    rw [HRR.out]
    exact ⟨rfl, Below.refl _ _⟩
  have HRR := Lib.hid (show R = logF [] l by rw [← hR]; unfold TxtLog; rw [if_neg h4])
  have g1 : decide (4000 < (l.length : Int)) = false := by simp; omega
  have hl4 : l.length ≤ 4000 := by omega
  have HRD := Lib.hid hrd
  have HH := Lib.hid hh
  clear hR hrd hh
  go_enter Tryz.func18, Tryz.ntmps18
  go_wp2_with (fail)
  go_loopw [4, 14] (TrR l w) (fun _ i _ => l.length - (intOf i).toNat)
  case atStart => exact ⟨0, [], by omega, rfl, rfl, rfl, by simp, Below.refl _ _⟩
  case round =>
    obtain ⟨k, acc, hk, rfl, rfl, hlog, hac, hb⟩ := hrel
    have HLG := Lib.hid hlog
    have HB := Lib.hid hb
    obtain ⟨sc, hsc⟩ : ∃ y, sA acc = y := ⟨_, rfl⟩
    have hscz : sc.size ≤ 201 * k := by rw [← hsc, sA_sz]; exact hac
    rw [hsc]
    have HSC := Lib.hid hsc
    have HAC := Lib.hid hac
    clear hlog hb hsc hac
    by_cases hkl : k < l.length
    · obtain ⟨x, hx⟩ : ∃ x, l[k]? = some x := ⟨_, List.getElem?_eq_getElem hkl⟩
      obtain ⟨b2, off2, rfl, hb2l, hc2⟩ := HRD.out k x hx
      have hra : wr.rangeAt b2 (off2 + k * 19) (evE x) := fun j v hv => (HB.out.cell (p := ⟨b2, off2 + k * 19 + j, none⟩) hb2l).trans (hc2 j v hv)
      have HRA := Lib.hid hra
      have HXH := Lib.hid (HH.out x (List.mem_of_getElem? hx))
      have HNX := Lib.hid (show logF acc (l.drop k) = if chkE x ≠ 0 then ([], chkE x) else logF (acc ++ (txtE x ++ [10])) (l.drop (k + 1)) by
        have hd : l.drop k = x :: l.drop (k + 1) := by rw [List.drop_eq_getElem_cons hkl]; congr 1; exact Option.some.inj ((List.getElem?_eq_getElem hkl).symm.trans hx)
        rw [hd]; rfl)
      clear hra hc2 hx
      obtain ⟨W6, hW6⟩ : ∃ y, wr.alloc (.cells (evE x).toArray 29) = y := ⟨_, rfl⟩
      have HB6 := Lib.hid (show Below wr.heap.size wr W6 by rw [← hW6]; exact cur_new _ _)
      have HX6 := Lib.hid (show Blk W6 wr.heap.size 29 (evE x) by rw [← hW6]; exact Blk.new wr _ _)
      have S6 := Lib.hid hW6
      clear hW6
      go_wp2_with (first | (refine wpList_load_mid rfl 29 _ rfl b2 (off2 + k * 19) (by rfl) (evE x) _ HRA.out (by rfl) (by rfl) evt_info2 ?_) | (refine wpList_storeNew rfl _ _ 29 rfl _ (evE x).toArray evt_info2 (by rfl) (by rfl) rfl (evt_one2 _) ?_; rw [S6.out]) | (refine wpList_loadC rfl _ 29 rfl wr.heap.size 29 (evE x) _ rfl (by rfl) (by rfl) (by rfl) HX6.out ?_))
      refine (textr8 x HXH.out W6).mono ?_
      rintro e' w7 ⟨rfl, hb7⟩
      have HB7 := Lib.hid (cur_step1 HB6.out hb7)
      clear hb7
      by_cases hc : chkE x = 0
      · have HT := Lib.hid (show TxtE x = (txtE x, 0) by unfold TxtE; rw [if_neg (by simpa using hc)])
        have HTL := Lib.hid (show (txtE x).length ≤ 200 from txt_len (okE_of hc))
        have HN2 := Lib.hid (show logF (acc ++ (txtE x ++ [10])) (l.drop (k + 1)) = logF [] l by rw [← HLG.out, HNX.out, if_neg (by simpa using hc)])
        rw [HT.out]
        dsimp only
        obtain ⟨tS, htS⟩ : ∃ y, sA (txtE x) = y := ⟨_, rfl⟩
        have htz : tS.size ≤ 200 := by rw [← htS, sA_sz]; exact HTL.out
        have hlt : (9223372036854775807 < tS.size + 1) = False := by simp; omega
        have hlt2 : (9223372036854775807 < sc.size + (tS.size + 1)) = False := by simp; omega
        have HTN := Lib.hid (show sc ++ (tS ++ (⟨#[10]⟩ : ByteArray)) = sA (acc ++ (txtE x ++ [10])) by rw [← HSC.out, ← htS]; have e1 := sA_app (txtE x) [10]; have e2 := sA_app acc (txtE x ++ [10]); rw [← e2, ← e1]; rfl)
        rw [htS]
        clear hc htS
        go_wp2_with (fail)
        exact ⟨⟨k + 1, acc ++ (txtE x ++ [10]), by omega, rfl, by rw [← HTN.out], HN2.out, by have := HTL.out; have := HAC.out; simp; omega, cur_step1 HB.out HB7.out⟩, by show l.length - (k + 1) < l.length - k; omega⟩
      · obtain ⟨v, hv⟩ : ∃ v, chkE x = v := ⟨_, rfl⟩
        have HT := Lib.hid (show TxtE x = ([], v) by unfold TxtE; rw [if_pos hc, hv])
        have gv : (v != 0) = true := by rw [← hv]; simpa using hc
        have HR2 := Lib.hid (show R = ([], v) by rw [HRR.out, ← HLG.out, HNX.out, if_pos hc, hv])
        rw [HT.out]
        dsimp only
        generalize sA [] = s9
        clear hc hv
        go_wp2_with (fail)
        go_ret2
        rw [HR2.out]
        exact ⟨rfl, cur_step1 HB.out HB7.out⟩
    · have hkn : k = l.length := by omega
      have g9 : ¬ k < l.length := hkl
      have HR2 := Lib.hid (show R = (acc, 0) by rw [HRR.out, ← HLG.out, hkn, List.drop_length]; rfl)
      clear hkn
      go_wp2_with (fail)
      go_ret2
      rw [HR2.out]
      dsimp only
      rw [HSC.out]
      exact ⟨rfl, HB.out⟩
end
end Go.Proofs.YtgkjcapoddjkhaaGreatDoor
