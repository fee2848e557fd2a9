/-
  Chapter 7: the small functions of the symbols: digits, letters.
-/
import Derived.Test.YtdbiihfoafoljaaGreatDoorNotC
import Derived.Test.YtdbiihfoafoljaaGreatDoorNotL
import Derived.Test.YtdbiihfoafoljaaGreatDoorBlk
set_option linter.unusedSimpArgs false
set_option linter.unusedVariables false
namespace Go.Proofs.YtdbiihfoafoljaaGreatDoor
open Go.RowKit
set_option maxRecDepth 100000
set_option maxHeartbeats 2000000
/-- A boxed delivery. -/
structure DBox (w wr : World) (d : Del) : Prop where
  below : Below w.heap.size w wr
  blk : Blk wr w.heap.size 36 (delE d)
theorem DBox.new (d : Del) (w : World) : DBox w (w.alloc (.cells (delE d).toArray 36)) d := ⟨cur_new _ _, Blk.new w _ _⟩
theorem DBox.to {w wr w1 : World} {d : Del} (h : DBox w wr d) (hb : Below wr.heap.size wr w1) : DBox w w1 d := ⟨cur_step1 h.below hb, h.blk.to hb⟩
theorem DBox.cells {w wr : World} {d : Del} (h : DBox w wr d) : wr.cell? ⟨w.heap.size, 0, none⟩ = some (.int .u8 d.ty) ∧ wr.cell? ⟨w.heap.size, 1, none⟩ = some (.int .u8 d.src) ∧ wr.cell? ⟨w.heap.size, 2, none⟩ = some (.int .i64 d.runs) ∧ wr.cell? ⟨w.heap.size, 3, none⟩ = some (.int .i64 d.short) ∧ wr.cell? ⟨w.heap.size, 4, none⟩ = some (.int .i64 d.bd) ∧ wr.cell? ⟨w.heap.size, 5, none⟩ = some (.bool d.cr) ∧ wr.cell? ⟨w.heap.size, 6, none⟩ = some (.int .u8 d.how) ∧ wr.cell? ⟨w.heap.size, 7, none⟩ = some (.int .i64 d.vic) ∧ wr.cell? ⟨w.heap.size, 8, none⟩ = some (.int .i64 d.fd) ∧ wr.cell? ⟨w.heap.size, 9, none⟩ = some (.int .i64 d.sd) ∧ wr.cell? ⟨w.heap.size, 10, none⟩ = some (.bool d.sub) ∧ wr.cell? ⟨w.heap.size, 11, none⟩ = some (.int .i64 d.sec) :=
  ⟨h.blk.cell 0, h.blk.cell 1, h.blk.cell 2, h.blk.cell 3, h.blk.cell 4, h.blk.cell 5, h.blk.cell 6, h.blk.cell 7, h.blk.cell 8, h.blk.cell 9, h.blk.cell 10, h.blk.cell 11⟩
theorem DBox.lt {w wr : World} {d : Del} (h : DBox w wr d) : w.heap.size < wr.heap.size := h.blk.lt
def sA (l : List UInt8) : ByteArray := ⟨l.toArray⟩
theorem digit_p (n : Int) (h0 : 0 ≤ n) (h9 : n ≤ 9) (w : World) : Calls Tryz.prog 70 #[.int .i64 n] w fun e w' => e = .returned (.string (sA (dg n))) ∧ w = w' := by
  rcases (by omega : n = 0 ∨ n = 1 ∨ n = 2 ∨ n = 3 ∨ n = 4 ∨ n = 5 ∨ n = 6 ∨ n = 7 ∨ n = 8 ∨ n = 9) with rfl | rfl | rfl | rfl | rfl | rfl | rfl | rfl | rfl | rfl <;>
  · go_enter Tryz.func70, Tryz.ntmps70
    go_wp2_with fail
    go_ret
    exact ⟨rfl, rfl⟩
theorem source_p (d : Del) (w : World) : Calls Tryz.prog 69 #[delV d] w fun e w' => e = .returned (.string (sA (srcL d.ty d.src))) ∧ Below w.heap.size w w' := by
  obtain ⟨ty, src, runs, short, bd, cr, how, vic, fd, sd, sub, sec⟩ := d
  unfold delV
  dsimp only
  have hcs : (src = 0 ∧ ty ≠ 2) ∨ (src = 0 ∧ ty = 2) ∨ (src = 1 ∧ ty = 2) ∨ (src = 1 ∧ ty ≠ 2) ∨ src = 2 ∨ src = 3 ∨ (src ≠ 0 ∧ src ≠ 1 ∧ src ≠ 2 ∧ src ≠ 3) := by omega
  rcases hcs with ⟨rfl, ht⟩ | ⟨rfl, rfl⟩ | ⟨rfl, rfl⟩ | ⟨rfl, ht⟩ | rfl | rfl | ⟨h0, h1, h2, h3⟩
  · have g1 : (ty != 2) = true := by simpa using ht
    have g2 : (ty == 2) = false := by simpa using ht
    have HT := Lib.hid ht
    clear ht
    obtain ⟨w1, hw1⟩ : ∃ w1, w.alloc (.cells #[.int .u8 ty, .int .u8 0, .int .i64 runs, .int .i64 short, .int .i64 bd, .bool cr, .int .u8 how, .int .i64 vic, .int .i64 fd, .int .i64 sd, .bool sub, .int .i64 sec] 36) = w1 := ⟨_, rfl⟩
    have hd : DBox w w1 ⟨ty, 0, runs, short, bd, cr, how, vic, fd, sd, sub, sec⟩ := by rw [← hw1]; exact DBox.new ⟨ty, 0, runs, short, bd, cr, how, vic, fd, sd, sub, sec⟩ w
    obtain ⟨c0, c1, c2, c3, c4, c5, c6, c7, c8, c9, c10, c11⟩ := hd.cells
    dsimp only at c0 c1 c2 c3 c4 c5 c6 c7 c8 c9 c10 c11
    have hlt := hd.lt
    have HD := Lib.hid hd
    have HW1 := Lib.hid hw1
    clear hd hw1
    go_enter Tryz.func69, Tryz.ntmps69
    go_wp2_with (rw [HW1.out])
    go_ret
    exact ⟨by unfold srcL; simp [HT.out, sA], HD.out.below⟩
  · obtain ⟨w1, hw1⟩ : ∃ w1, w.alloc (.cells #[.int .u8 2, .int .u8 0, .int .i64 runs, .int .i64 short, .int .i64 bd, .bool cr, .int .u8 how, .int .i64 vic, .int .i64 fd, .int .i64 sd, .bool sub, .int .i64 sec] 36) = w1 := ⟨_, rfl⟩
    have hd : DBox w w1 ⟨2, 0, runs, short, bd, cr, how, vic, fd, sd, sub, sec⟩ := by rw [← hw1]; exact DBox.new ⟨2, 0, runs, short, bd, cr, how, vic, fd, sd, sub, sec⟩ w
    obtain ⟨c0, c1, c2, c3, c4, c5, c6, c7, c8, c9, c10, c11⟩ := hd.cells
    dsimp only at c0 c1 c2 c3 c4 c5 c6 c7 c8 c9 c10 c11
    have hlt := hd.lt
    have HD := Lib.hid hd
    have HW1 := Lib.hid hw1
    clear hd hw1
    go_enter Tryz.func69, Tryz.ntmps69
    go_wp2_with (rw [HW1.out])
    go_ret
    exact ⟨rfl, HD.out.below⟩
  · obtain ⟨w1, hw1⟩ : ∃ w1, w.alloc (.cells #[.int .u8 2, .int .u8 1, .int .i64 runs, .int .i64 short, .int .i64 bd, .bool cr, .int .u8 how, .int .i64 vic, .int .i64 fd, .int .i64 sd, .bool sub, .int .i64 sec] 36) = w1 := ⟨_, rfl⟩
    have hd : DBox w w1 ⟨2, 1, runs, short, bd, cr, how, vic, fd, sd, sub, sec⟩ := by rw [← hw1]; exact DBox.new ⟨2, 1, runs, short, bd, cr, how, vic, fd, sd, sub, sec⟩ w
    obtain ⟨c0, c1, c2, c3, c4, c5, c6, c7, c8, c9, c10, c11⟩ := hd.cells
    dsimp only at c0 c1 c2 c3 c4 c5 c6 c7 c8 c9 c10 c11
    have hlt := hd.lt
    have HD := Lib.hid hd
    have HW1 := Lib.hid hw1
    clear hd hw1
    go_enter Tryz.func69, Tryz.ntmps69
    go_wp2_with (rw [HW1.out])
    go_ret
    exact ⟨rfl, HD.out.below⟩
  · have g1 : (ty != 2) = true := by simpa using ht
    have g2 : (ty == 2) = false := by simpa using ht
    have HT := Lib.hid ht
    clear ht
    obtain ⟨w1, hw1⟩ : ∃ w1, w.alloc (.cells #[.int .u8 ty, .int .u8 1, .int .i64 runs, .int .i64 short, .int .i64 bd, .bool cr, .int .u8 how, .int .i64 vic, .int .i64 fd, .int .i64 sd, .bool sub, .int .i64 sec] 36) = w1 := ⟨_, rfl⟩
    have hd : DBox w w1 ⟨ty, 1, runs, short, bd, cr, how, vic, fd, sd, sub, sec⟩ := by rw [← hw1]; exact DBox.new ⟨ty, 1, runs, short, bd, cr, how, vic, fd, sd, sub, sec⟩ w
    obtain ⟨c0, c1, c2, c3, c4, c5, c6, c7, c8, c9, c10, c11⟩ := hd.cells
    dsimp only at c0 c1 c2 c3 c4 c5 c6 c7 c8 c9 c10 c11
    have hlt := hd.lt
    have HD := Lib.hid hd
    have HW1 := Lib.hid hw1
    clear hd hw1
    go_enter Tryz.func69, Tryz.ntmps69
    go_wp2_with (rw [HW1.out])
    go_ret
    exact ⟨by unfold srcL; simp [HT.out, sA], HD.out.below⟩
  · obtain ⟨w1, hw1⟩ : ∃ w1, w.alloc (.cells #[.int .u8 ty, .int .u8 2, .int .i64 runs, .int .i64 short, .int .i64 bd, .bool cr, .int .u8 how, .int .i64 vic, .int .i64 fd, .int .i64 sd, .bool sub, .int .i64 sec] 36) = w1 := ⟨_, rfl⟩
    have hd : DBox w w1 ⟨ty, 2, runs, short, bd, cr, how, vic, fd, sd, sub, sec⟩ := by rw [← hw1]; exact DBox.new ⟨ty, 2, runs, short, bd, cr, how, vic, fd, sd, sub, sec⟩ w
    obtain ⟨c0, c1, c2, c3, c4, c5, c6, c7, c8, c9, c10, c11⟩ := hd.cells
    dsimp only at c0 c1 c2 c3 c4 c5 c6 c7 c8 c9 c10 c11
    have hlt := hd.lt
    have HD := Lib.hid hd
    have HW1 := Lib.hid hw1
    clear hd hw1
    go_enter Tryz.func69, Tryz.ntmps69
    go_wp2_with (rw [HW1.out])
    go_ret
    exact ⟨rfl, HD.out.below⟩
  · obtain ⟨w1, hw1⟩ : ∃ w1, w.alloc (.cells #[.int .u8 ty, .int .u8 3, .int .i64 runs, .int .i64 short, .int .i64 bd, .bool cr, .int .u8 how, .int .i64 vic, .int .i64 fd, .int .i64 sd, .bool sub, .int .i64 sec] 36) = w1 := ⟨_, rfl⟩
    have hd : DBox w w1 ⟨ty, 3, runs, short, bd, cr, how, vic, fd, sd, sub, sec⟩ := by rw [← hw1]; exact DBox.new ⟨ty, 3, runs, short, bd, cr, how, vic, fd, sd, sub, sec⟩ w
    obtain ⟨c0, c1, c2, c3, c4, c5, c6, c7, c8, c9, c10, c11⟩ := hd.cells
    dsimp only at c0 c1 c2 c3 c4 c5 c6 c7 c8 c9 c10 c11
    have hlt := hd.lt
    have HD := Lib.hid hd
    have HW1 := Lib.hid hw1
    clear hd hw1
    go_enter Tryz.func69, Tryz.ntmps69
    go_wp2_with (rw [HW1.out])
    go_ret
    exact ⟨rfl, HD.out.below⟩
  · have g0 : (src == 0) = false := by simpa using h0
    have g1 : (src == 1) = false := by simpa using h1
    have g2 : (src == 2) = false := by simpa using h2
    have g3 : (src == 3) = false := by simpa using h3
    have HT := Lib.hid (And.intro h0 (And.intro h1 (And.intro h2 h3)))
    clear h0 h1 h2 h3
    obtain ⟨w1, hw1⟩ : ∃ w1, w.alloc (.cells #[.int .u8 ty, .int .u8 src, .int .i64 runs, .int .i64 short, .int .i64 bd, .bool cr, .int .u8 how, .int .i64 vic, .int .i64 fd, .int .i64 sd, .bool sub, .int .i64 sec] 36) = w1 := ⟨_, rfl⟩
    have hd : DBox w w1 ⟨ty, src, runs, short, bd, cr, how, vic, fd, sd, sub, sec⟩ := by rw [← hw1]; exact DBox.new ⟨ty, src, runs, short, bd, cr, how, vic, fd, sd, sub, sec⟩ w
    obtain ⟨c0, c1, c2, c3, c4, c5, c6, c7, c8, c9, c10, c11⟩ := hd.cells
    dsimp only at c0 c1 c2 c3 c4 c5 c6 c7 c8 c9 c10 c11
    have hlt := hd.lt
    have HD := Lib.hid hd
    have HW1 := Lib.hid hw1
    clear hd hw1
    go_enter Tryz.func69, Tryz.ntmps69
    go_wp2_with (rw [HW1.out])
    go_ret
    exact ⟨by unfold srcL; obtain ⟨q0, q1, q2, q3⟩ := HT.out; simp [q0, q1, q2, q3, sA], HD.out.below⟩
end Go.Proofs.YtdbiihfoafoljaaGreatDoor
