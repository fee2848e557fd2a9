/-
  Chapter 58: the chapter's example. First the laws' own small functions.
-/
import Derived.Test.YtimmlffgokgekaaEqs
import Derived.Test.YtimmlffgokgekaaArcU
set_option linter.unusedSimpArgs false
set_option linter.unusedVariables false
namespace Go.Proofs.Ytimmlffgokgekaa
open Go.RowKit
set_option maxRecDepth 100000
set_option maxHeartbeats 4000000
theorem evt_one (x : Ev) : (evE x).toArray.all (·.oneCell') = true := by simp [evE, delE, Value.oneCell']
def stopE : Ev := ⟨16, 0, 0, 0, false, 0, 0, zeroD⟩
def noteE : Ev := ⟨10, 0, 0, 0, false, 0, 0, zeroD⟩
def annS : ByteArray := ⟨#[65, 78, 78]⟩
theorem stop_p (w : World) : Calls Try.prog 35 #[] w fun e' w' => e' = .returned (.agg (evE stopE).toArray) ∧ Below w.heap.size w w' := by
  obtain ⟨W1, hW1⟩ : ∃ y, w.alloc (.cells (evE stopE).toArray 37) = y := ⟨_, rfl⟩
  have S1 := Lib.hid hW1
  have HB := Lib.hid (show Below w.heap.size w W1 by rw [← hW1]; exact cur_new _ _)
  have HK := Lib.hid (show Blk W1 w.heap.size 37 (evE stopE) by rw [← hW1]; exact Blk.new _ _ _)
  clear hW1
  go_enter Try.func35, Try.ntmps35
  go_upto_region 1 with (fail)
  refine wp_region_lit ?_
  refine wpList_buildTo rfl _ _ rfl _ rfl (evE stopE).toArray (by kernel_rfl) ?_
  refine wpList_storeNew rfl _ _ 37 rfl _ (evE stopE).toArray evt_info3 (by rfl) (by rfl) rfl (evt_one _) ?_
  rw [S1.out]
  go_wp2_with (fail)
  refine ret_cell (g := w.heap.size) (xs := evE stopE) rfl rfl HK.out Try.underlying37 rfl evt_info3 rfl ⟨rfl, HB.out⟩
theorem note_p (w : World) : Calls Try.prog 36 #[] w fun e' w' => e' = .returned (.agg (evE noteE).toArray) ∧ Below w.heap.size w w' := by
  obtain ⟨W1, hW1⟩ : ∃ y, w.alloc (.cells (evE noteE).toArray 37) = y := ⟨_, rfl⟩
  have S1 := Lib.hid hW1
  have HB := Lib.hid (show Below w.heap.size w W1 by rw [← hW1]; exact cur_new _ _)
  have HK := Lib.hid (show Blk W1 w.heap.size 37 (evE noteE) by rw [← hW1]; exact Blk.new _ _ _)
  clear hW1
  go_enter Try.func36, Try.ntmps36
  go_upto_region 1 with (fail)
  refine wp_region_lit ?_
  refine wpList_buildTo rfl _ _ rfl _ rfl (evE noteE).toArray (by kernel_rfl) ?_
  refine wpList_storeNew rfl _ _ 37 rfl _ (evE noteE).toArray evt_info3 (by rfl) (by rfl) rfl (evt_one _) ?_
  rw [S1.out]
  go_wp2_with (fail)
  refine ret_cell (g := w.heap.size) (xs := evE noteE) rfl rfl HK.out Try.underlying37 rfl evt_info3 rfl ⟨rfl, HB.out⟩
theorem one_p (i : Int) (e : Ev) (w : World) : Calls Try.prog 34 #[.int .i64 i, .agg (evE e).toArray] w fun e' w' => e' = .returned (.agg (entE ⟨i, e, annS⟩).toArray) ∧ Below w.heap.size w w' := by
  obtain ⟨W0, hW0⟩ : ∃ y, w.alloc (.cells (evE e).toArray 37) = y := ⟨_, rfl⟩
  have hs0 : W0.heap.size = w.heap.size + 1 := by rw [← hW0]; simp
  obtain ⟨W1, hW1⟩ : ∃ y, W0.alloc (.cells (entE ⟨i, e, annS⟩).toArray 39) = y := ⟨_, rfl⟩
  have S1 := Lib.hid hW1
  have HB0 := Lib.hid (show Blk (W0.alloc (.cells (entE ⟨0, zeroE, ByteArray.empty⟩).toArray 39)) w.heap.size 37 (evE e) by rw [← hW0]; exact (Blk.new w _ _).to (cur_new _ _))
  have HB := Lib.hid (show Below w.heap.size w W1 by rw [← hW1, ← hW0]; exact cur_two _ _ _)
  have HK := Lib.hid (show Blk W1 (w.heap.size + 1) 39 (entE ⟨i, e, annS⟩) by rw [← hW1, ← hs0]; exact Blk.new _ _ _)
  clear hW1
  go_enter Try.func34, Try.ntmps34
  go_upto_region 1 with (fail)
  refine wp_region_lit ?_
  (refine wpList_step (fun K hK => ?_); go_simp; refine hK _ _ ?_; clear hK K)
  refine wpList_loadC rfl _ 37 rfl w.heap.size 37 (evE e) _ rfl (by rfl) (by rfl) (by rfl) HB0.out ?_
  refine wpList_buildTo rfl _ _ rfl _ rfl (entE ⟨i, e, annS⟩).toArray (by kernel_rfl) ?_
  refine wpList_storeNew rfl _ _ 39 rfl _ (entE ⟨i, e, annS⟩).toArray ent_info (by rw [hs0]; rfl) (by rfl) rfl (ent_one _) ?_
  rw [S1.out]
  go_wp2_with (fail)
  refine ret_cell (g := w.heap.size + 1) (xs := entE ⟨i, e, annS⟩) rfl rfl HK.out Try.underlying39 rfl ent_info rfl ⟨rfl, HB.out⟩
theorem exB_is : chkA [⟨1000, stopE, annS⟩, ⟨2000, stopE, annS⟩] = 0 := by decide +kernel
theorem exL_is : chkA [⟨1000, stopE, annS⟩, ⟨1500, stopE, annS⟩] = 0 := by decide +kernel
theorem exR_is : chkA [⟨1000, noteE, annS⟩, ⟨1500, noteE, annS⟩, ⟨2000, stopE, annS⟩] = 0 := by decide +kernel
theorem exO_is : mOut [⟨1000, stopE, annS⟩, ⟨2000, stopE, annS⟩] [⟨1000, stopE, annS⟩, ⟨1500, stopE, annS⟩] [⟨1000, noteE, annS⟩, ⟨1500, noteE, annS⟩, ⟨2000, stopE, annS⟩] (idsU [⟨1000, stopE, annS⟩, ⟨2000, stopE, annS⟩] [⟨1000, stopE, annS⟩, ⟨1500, stopE, annS⟩] [⟨1000, noteE, annS⟩, ⟨1500, noteE, annS⟩, ⟨2000, stopE, annS⟩]) = [⟨1000, noteE, annS⟩] := by rw [← idsU_ins]; decide +kernel
theorem exC_is : mCl [⟨1000, stopE, annS⟩, ⟨2000, stopE, annS⟩] [⟨1000, stopE, annS⟩, ⟨1500, stopE, annS⟩] [⟨1000, noteE, annS⟩, ⟨1500, noteE, annS⟩, ⟨2000, stopE, annS⟩] (idsU [⟨1000, stopE, annS⟩, ⟨2000, stopE, annS⟩] [⟨1000, stopE, annS⟩, ⟨1500, stopE, annS⟩] [⟨1000, noteE, annS⟩, ⟨1500, noteE, annS⟩, ⟨2000, stopE, annS⟩]) = [1500] := by rw [← idsU_ins]; decide +kernel
theorem chk_stop : chkE stopE = 0 := by decide +kernel
theorem chk_note : chkE noteE = 0 := by decide +kernel
end Go.Proofs.Ytimmlffgokgekaa
