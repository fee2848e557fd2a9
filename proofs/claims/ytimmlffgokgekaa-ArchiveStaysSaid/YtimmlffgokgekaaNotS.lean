/-
  Chapter 7: the small functions of the symbols: digits, letters.
-/
import Derived.Test.YtimmlffgokgekaaNotC
import Derived.Test.YtimmlffgokgekaaNotL
import Derived.Test.YtimmlffgokgekaaBlk
set_option linter.unusedSimpArgs false
set_option linter.unusedVariables false
namespace Go.Proofs.Ytimmlffgokgekaa
open Go.RowKit
set_option maxRecDepth 100000
set_option maxHeartbeats 2000000
/-- A boxed delivery. -/
structure DBox (w wr : World) (d : Del) : Prop where
  below : Below w.heap.size w wr
  blk : Blk wr w.heap.size 35 (delE d)
theorem DBox.new (d : Del) (w : World) : DBox w (w.alloc (.cells (delE d).toArray 35)) d := ⟨cur_new _ _, Blk.new w _ _⟩
theorem DBox.to {w wr w1 : World} {d : Del} (h : DBox w wr d) (hb : Below wr.heap.size wr w1) : DBox w w1 d := ⟨cur_step1 h.below hb, h.blk.to hb⟩
theorem DBox.cells {w wr : World} {d : Del} (h : DBox w wr d) : wr.cell? ⟨w.heap.size, 0, none⟩ = some (.int .u8 d.ty) ∧ wr.cell? ⟨w.heap.size, 1, none⟩ = some (.int .u8 d.src) ∧ wr.cell? ⟨w.heap.size, 2, none⟩ = some (.int .i64 d.runs) ∧ wr.cell? ⟨w.heap.size, 3, none⟩ = some (.int .i64 d.short) ∧ wr.cell? ⟨w.heap.size, 4, none⟩ = some (.int .i64 d.bd) ∧ wr.cell? ⟨w.heap.size, 5, none⟩ = some (.bool d.cr) ∧ wr.cell? ⟨w.heap.size, 6, none⟩ = some (.int .u8 d.how) ∧ wr.cell? ⟨w.heap.size, 7, none⟩ = some (.int .i64 d.vic) ∧ wr.cell? ⟨w.heap.size, 8, none⟩ = some (.int .i64 d.fd) ∧ wr.cell? ⟨w.heap.size, 9, none⟩ = some (.int .i64 d.sd) ∧ wr.cell? ⟨w.heap.size, 10, none⟩ = some (.bool d.sub) ∧ wr.cell? ⟨w.heap.size, 11, none⟩ = some (.int .i64 d.sec) :=
  ⟨h.blk.cell 0, h.blk.cell 1, h.blk.cell 2, h.blk.cell 3, h.blk.cell 4, h.blk.cell 5, h.blk.cell 6, h.blk.cell 7, h.blk.cell 8, h.blk.cell 9, h.blk.cell 10, h.blk.cell 11⟩
theorem DBox.lt {w wr : World} {d : Del} (h : DBox w wr d) : w.heap.size < wr.heap.size := h.blk.lt
def sA (l : List UInt8) : ByteArray := ⟨l.toArray⟩
end Go.Proofs.Ytimmlffgokgekaa
