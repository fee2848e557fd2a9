/-
  Chapter 12: Change.
-/
import Derived.Test.YtjlmlafiojpjmaaOwn12
namespace Go.Proofs.Ytjlmlafiojpjmaa
open Go.RowKit
set_option maxRecDepth 100000 in
set_option maxHeartbeats 1000000 in
theorem change_f (r : Rst) (wk st ot : Int) (B : Value) (bs : List Value) (w : World) (hl : bs.length ≤ 1000000) (hB : Lst w B bs) (h1 : ∀ u ∈ bs, u.oneCell' = true) :
    Calls Try.prog 10 #[innV r wk st ot B] w fun e w' => ∃ B', e = .returned (innV r wk ot st B') ∧ w'.ownsRow w.heap.size 50 1 B' bs.length bs ∧ Below w.heap.size w w' := by
  go_enter Try.func10, Try.ntmps10
  go_wp2_with (first
    | (refine wpList_load_row rfl 32 _ rfl w.heap.size rfl 32 (innL r wk st ot B).toArray (0, 0) _ ?hg Try.underlying32 rfl inn_info ?_; (case hg => exact (Blk.new w _ _).to (cur_new _ _)))
    | fail)
  obtain ⟨hin, hre, hb0⟩ := entry2 w (innL r wk st ot B) [.int .i64 0, .int .i64 0, .int .i64 0, .int .i64 0, .int .i64 0, .int .i64 0, .int .i64 0, .int .i64 0, .int .i64 0, .int .i64 0, .int .i64 0, .int .i64 0, .int .i64 0, .int .i64 0, .slice none 0 0, .int .i64 0, .slice none 0 0, .slice none 0 0, .bool false, .slice none 0 0, .bool false, .int .i64 0, .int .i64 0, .int .i64 0, .slice none 0 0, .int .i64 0, .int .i64 0, .int .u8 0] 32 32
  generalize (w.alloc (Obj.cells (innL r wk st ot B).toArray 32)).alloc (Obj.cells [.int .i64 0, .int .i64 0, .int .i64 0, .int .i64 0, .int .i64 0, .int .i64 0, .int .i64 0, .int .i64 0, .int .i64 0, .int .i64 0, .int .i64 0, .int .i64 0, .int .i64 0, .int .i64 0, .slice none 0 0, .int .i64 0, .slice none 0 0, .slice none 0 0, .bool false, .slice none 0 0, .bool false, .int .i64 0, .int .i64 0, .int .i64 0, .slice none 0 0, .int .i64 0, .int .i64 0, .int .u8 0].toArray 32) = w0 at hin hre hb0 ⊢
  refine (own_f r wk st ot B bs w0 hl (hB.to hb0) h1).mono ?_
  rintro e w1 ⟨B', rfl, hown, hb1⟩
  have hb00 := hb0.size
  have HW0 : w.heap.size + 1 < w0.heap.size := hre.lt
  have HIN := Lib.hid (hin.to hb1)
  have HRE := Lib.hid (hre.to hb1)
  have HB1 := Lib.hid (cur_step1 hb0 hb1)
  have hlt : w.heap.size + 1 < w1.heap.size := HRE.out.lt
  obtain ⟨A', c', rfl⟩ := own_form hown
  have hrg := own_range hown
  have HN1 := Lib.hid (fun k hk => (by have := hrg k hk; omega : k ≠ w1.heap.size))
  have HN2 := Lib.hid (fun k hk => (by have := hrg k hk; have := HW0; omega : k ≠ w.heap.size + 1))
  have HO := Lib.hid hown
  clear hown hin hre hb1 hb0 hrg
  go_wp2_with (refine wpList_storeNew rfl _ _ 32 rfl _ (innL r wk st ot (.slice A' bs.length c')).toArray inn_info (by rfl) (by rfl) rfl (inn_one _ _ _ _ _ _ _) ?_)
  have hb2 := cur_new w1 (.cells (innL r wk st ot (.slice A' bs.length c')).toArray 32)
  have haf := Blk.new w1 32 (innL r wk st ot (.slice A' bs.length c'))
  generalize w1.alloc (Obj.cells (innL r wk st ot (.slice A' bs.length c')).toArray 32) = w2 at hb2 haf ⊢
  have HIN2 := Lib.hid (HIN.out.to hb2)
  have HRE2 := Lib.hid (HRE.out.to hb2)
  have HB2 := Lib.hid (cur_step1 HB1.out hb2)
  have HO2 := Lib.hid (own_mono (own_below HO.out hb2 (Nat.le_refl _)) (hb00))
  have c1 : w2.cell? ⟨w.heap.size, 13, none⟩ = some (.int .i64 ot) := HIN2.out.cell 13
  have c2 : w2.cell? ⟨w.heap.size, 12, none⟩ = some (.int .i64 st) := HIN2.out.cell 12
  have c3 : w2.cell? ⟨w1.heap.size, 12, none⟩ = some (.int .i64 st) := haf.cell 12
  have c4 : w2.cell? ⟨w1.heap.size, 13, none⟩ = some (.int .i64 ot) := haf.cell 13
  have f1 := haf.frozen 12
  have f2 := haf.frozen 13
  have h3 := haf.set 12 (.int .i64 ot)
  have c5 : (w2.setCell ⟨w1.heap.size, 12, none⟩ (.int .i64 ot)).cell? ⟨w1.heap.size, 13, none⟩ = some (.int .i64 ot) := h3.cell 13
  have f3 := h3.frozen 13
  have c6 : (w2.setCell ⟨w1.heap.size, 12, none⟩ (.int .i64 ot)).cell? ⟨w.heap.size, 12, none⟩ = some (.int .i64 st) := (HIN2.out.other (by omega) 12 _).cell 12
  have H4 := Lib.hid (h3.set 13 (.int .i64 st))
  clear h3 haf hb2 HIN HRE HB1 HO
  go_region
  all_goals
    have hb5 : Below w.heap.size w ((w2.setCell ⟨w1.heap.size, 12, none⟩ (.int .i64 ot)).setCell ⟨w1.heap.size, 13, none⟩ (.int .i64 st)).drew := (below_set (below_set HB2.out (by omega) _ _) (by omega) _ _).drew
    have hre5 : Blk ((w2.setCell ⟨w1.heap.size, 12, none⟩ (.int .i64 ot)).setCell ⟨w1.heap.size, 13, none⟩ (.int .i64 st)).drew (w.heap.size + 1) 32 zeroL := (HRE2.out.other (by omega) _ _).other (by omega) _ _
    have haf5 : Blk ((w2.setCell ⟨w1.heap.size, 12, none⟩ (.int .i64 ot)).setCell ⟨w1.heap.size, 13, none⟩ (.int .i64 st)).drew w1.heap.size 32 (innL r wk ot st (.slice A' bs.length c')) := H4.out
    have ho5 : ((w2.setCell ⟨w1.heap.size, 12, none⟩ (.int .i64 ot)).setCell ⟨w1.heap.size, 13, none⟩ (.int .i64 st)).drew.ownsRow w.heap.size 50 1 (.slice A' bs.length c') bs.length bs := own_other (own_other HO2.out HN1.out _ _) HN1.out _ _
    clear c1 c2 c3 c4 c5 c6 f1 f2 f3 H4 HIN2 HRE2 HB2 HO2
    generalize ((w2.setCell ⟨w1.heap.size, 12, none⟩ (.int .i64 ot)).setCell ⟨w1.heap.size, 13, none⟩ (.int .i64 st)).drew = w5 at hb5 hre5 haf5 ho5 ⊢
    have HAF5 := Lib.hid haf5
    have HRE5 := Lib.hid hre5
    have HO5 := Lib.hid ho5
    clear haf5 hre5 ho5
    go_wp2_with (first
      | (refine wpList_load_row rfl 32 _ rfl w1.heap.size (by rfl) 32 (innL r wk ot st (.slice A' bs.length c')).toArray (0, 0) _ HAF5.out Try.underlying32 rfl inn_info ?_)
      | (refine wpList_storeC rfl _ _ 32 rfl (w.heap.size + 1) 32 zeroL (innL r wk ot st (.slice A' bs.length c')).toArray inn_info (by rfl) (by rfl) HRE5.out rfl (inn_one _ _ _ _ _ _ _) ?_))
    refine ret_cell (g := w.heap.size + 1) (xs := innL r wk ot st (.slice A' bs.length c')) rfl rfl (blk_row HRE5.out _) Try.underlying32 rfl inn_info rfl ?_
    exact ⟨_, rfl, own_row HO5.out HN2.out _, row_below hb5 (by omega) _⟩
end Go.Proofs.Ytjlmlafiojpjmaa
