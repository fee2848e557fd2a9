/-
  Chapter 12: own.
-/
import Derived.Test.YtjlmlafiojpjmaaInn12
namespace Go.Proofs.Ytjlmlafiojpjmaa
open Go.RowKit

theorem clone_in0 (w : World) : Calls Try.prog 31 #[.slice none 0 0] w fun e w' => e = .returned (.slice none 0 0) ∧ w = w' := by
  have q22 : ∀ (w : World) (a : Option Addr) (n c n' c' : Nat), (binOp .eql 27 (.slice a n c) (.slice none n' c')).run Try.prog w = .ok (.bool a.isNone) w := fun w a n c n' c' => Lib.run_eql_slice_nil w _ _ a n c n' c' Try.underlying27
  go_enter Try.func31, Try.ntmps31
  go_wp2
  go_ret
  exact ⟨rfl, rfl⟩
theorem clone_bo0 (w : World) : Calls Try.prog 32 #[.slice none 0 0] w fun e w' => e = .returned (.slice none 0 0) ∧ w = w' := by
  have q22 : ∀ (w : World) (a : Option Addr) (n c n' c' : Nat), (binOp .eql 28 (.slice a n c) (.slice none n' c')).run Try.prog w = .ok (.bool a.isNone) w := fun w a n c n' c' => Lib.run_eql_slice_nil w _ _ a n c n' c' Try.underlying28
  go_enter Try.func32, Try.ntmps32
  go_wp2
  go_ret
  exact ⟨rfl, rfl⟩

set_option maxRecDepth 100000 in
set_option maxHeartbeats 2000000 in
theorem own_f (r : Rst) (wk st ot : Int) (B : Value) (bs : List Value) (w : World) (hl : bs.length ≤ 1000000) (hB : Lst w B bs) (h1 : ∀ u ∈ bs, u.oneCell' = true) :
    Calls Try.prog 21 #[innV r wk st ot B] w fun e w' => ∃ B', e = .returned (innV r wk st ot B') ∧ w'.ownsRow w.heap.size 50 1 B' bs.length bs ∧ Below w.heap.size w w' := by
  have i1 : (innL r wk st ot B)[14]? = some B := rfl
  have i2 : (innL r wk st ot B).toArray[14]? = some B := rfl
  go_enter Try.func21, Try.ntmps21
  go_wp2_with fail
  obtain ⟨hin, hre, hb0⟩ := entry2 w (innL r wk st ot B) [.int .i64 0, .int .i64 0, .int .i64 0, .int .i64 0, .int .i64 0, .int .i64 0, .int .i64 0, .int .i64 0, .int .i64 0, .int .i64 0, .int .i64 0, .int .i64 0, .int .i64 0, .int .i64 0, .slice none 0 0, .int .i64 0, .slice none 0 0, .slice none 0 0, .bool false, .slice none 0 0, .bool false, .int .i64 0, .int .i64 0, .int .i64 0, .slice none 0 0, .int .i64 0, .int .i64 0, .int .u8 0] 32 32
  generalize (w.alloc (Obj.cells (innL r wk st ot B).toArray 32)).alloc (Obj.cells [.int .i64 0, .int .i64 0, .int .i64 0, .int .i64 0, .int .i64 0, .int .i64 0, .int .i64 0, .int .i64 0, .int .i64 0, .int .i64 0, .int .i64 0, .int .i64 0, .int .i64 0, .int .i64 0, .slice none 0 0, .int .i64 0, .slice none 0 0, .slice none 0 0, .bool false, .slice none 0 0, .bool false, .int .i64 0, .int .i64 0, .int .i64 0, .slice none 0 0, .int .i64 0, .int .i64 0, .int .u8 0].toArray 32) = w0 at hin hre hb0 ⊢
  clear i1 i2
  refine (clone_st B bs w0 hl (hB.to hb0) h1).mono ?_
  rintro e w1 ⟨B', rfl, hown, hb1⟩
  have hb00 := hb0.size
  have HW0 : w.heap.size + 1 < w0.heap.size := hre.lt
  have hq := hin.to hb1
  have hre1 := hre.to hb1
  have hb1' := cur_step1 hb0 hb1
  obtain ⟨A', c', rfl⟩ := own_form hown
  have hrg := own_range hown
  have HN1 := Lib.hid (fun k hk => (by have := hrg k hk; omega : k ≠ w.heap.size))
  have HN2 := Lib.hid (fun k hk => (by have := hrg k hk; omega : k ≠ w.heap.size + 1))
  have hlt : w.heap.size + 1 < w1.heap.size := hre1.lt
  have HO := Lib.hid (own_mono hown hb00)
  have c14 : w1.cell? ⟨w.heap.size, 14, none⟩ = some B := hq.cell 14
  have fz := hq.frozen 14
  have HQ := Lib.hid hq
  have HRE := Lib.hid hre1
  have HB := Lib.hid hb1'
  clear hown hin hre hb1 hb0 hrg hq hre1 hb1'
  have hB2 : ∃ A2 n2 c2, B = .slice A2 n2 c2 := by
    rcases hB with ⟨rfl, _⟩ | ⟨b, off, c, rfl, _⟩ <;> exact ⟨_, _, _, rfl⟩
  obtain ⟨A2, n2, c2, rfl⟩ := hB2
  go_wp2_with fail
  have hq2 : Blk (w1.setCell ⟨w.heap.size, 14, none⟩ (.slice A' bs.length c')) w.heap.size 32 (innL r wk st ot (.slice A' bs.length c')) := HQ.out.set 14 _
  have hre2 := HRE.out.other (g' := w.heap.size) (by omega) 14 (.slice A' bs.length c')
  have hb2 := below_set HB.out (Nat.le_refl _) 14 (.slice A' bs.length c')
  have ho2 := own_other HO.out HN1.out 14 (.slice A' bs.length c')
  clear HO HQ HRE HB c14 fz
  generalize w1.setCell ⟨w.heap.size, 14, none⟩ (.slice A' bs.length c') = w2 at hq2 hre2 hb2 ho2 ⊢
  have c1 : w2.cell? ⟨w.heap.size, 16, none⟩ = some (.slice none 0 0) := hq2.cell 16
  have c2 : w2.cell? ⟨w.heap.size, 17, none⟩ = some (.slice none 0 0) := hq2.cell 17
  have f1 := hq2.frozen 16
  have f2 := hq2.frozen 17
  have h3 := hq2.set 16 (.slice none 0 0)
  have g1 : (w2.setCell ⟨w.heap.size, 16, none⟩ (.slice none 0 0)).cell? ⟨w.heap.size, 17, none⟩ = some (.slice none 0 0) := h3.cell 17
  have g2 := h3.frozen 17
  have H3 := Lib.hid h3
  have HRE2 := Lib.hid hre2
  have HB2 := Lib.hid hb2
  have HO2 := Lib.hid ho2
  clear hq2 h3 hre2 hb2 ho2
  go_region_with (go_at_call 31; refine (clone_in0 _).mono ?_; rintro e wx ⟨rfl, rfl⟩)
  all_goals
    have hq3 : Blk (((w2.setCell ⟨w.heap.size, 16, none⟩ (.slice none 0 0)).setCell ⟨w.heap.size, 17, none⟩ (.slice none 0 0)).drew) w.heap.size 32 (innL r wk st ot (.slice A' bs.length c')) := H3.out.set 17 _
    have hre3 : Blk (((w2.setCell ⟨w.heap.size, 16, none⟩ (.slice none 0 0)).setCell ⟨w.heap.size, 17, none⟩ (.slice none 0 0)).drew) (w.heap.size + 1) 32 zeroL := (HRE2.out.other (by omega) _ _).other (by omega) _ _
    have hb3 : Below w.heap.size w (((w2.setCell ⟨w.heap.size, 16, none⟩ (.slice none 0 0)).setCell ⟨w.heap.size, 17, none⟩ (.slice none 0 0)).drew) := (below_set (below_set HB2.out (Nat.le_refl _) _ _) (Nat.le_refl _) _ _).drew
    have ho3 : (((w2.setCell ⟨w.heap.size, 16, none⟩ (.slice none 0 0)).setCell ⟨w.heap.size, 17, none⟩ (.slice none 0 0)).drew).ownsRow w.heap.size 50 1 (.slice A' bs.length c') bs.length bs := own_other (own_other HO2.out HN1.out _ _) HN1.out _ _
    clear HO2 H3 f1 f2 g1 g2 c1 c2 HB2 HRE2
    generalize ((w2.setCell ⟨w.heap.size, 16, none⟩ (.slice none 0 0)).setCell ⟨w.heap.size, 17, none⟩ (.slice none 0 0)).drew = w3 at hq3 hre3 hb3 ho3 ⊢
    have c1 : w3.cell? ⟨w.heap.size, 19, none⟩ = some (.slice none 0 0) := hq3.cell 19
    have c2 : w3.cell? ⟨w.heap.size, 24, none⟩ = some (.slice none 0 0) := hq3.cell 24
    have f1 := hq3.frozen 19
    have f2 := hq3.frozen 24
    have h4 := hq3.set 19 (.slice none 0 0)
    have g1 : (w3.setCell ⟨w.heap.size, 19, none⟩ (.slice none 0 0)).cell? ⟨w.heap.size, 24, none⟩ = some (.slice none 0 0) := h4.cell 24
    have g2 := h4.frozen 24
    have H4 := Lib.hid h4
    have HRE3 := Lib.hid hre3
    have HB3 := Lib.hid hb3
    have HO3 := Lib.hid ho3
    clear hq3 h4 hre3 hb3 ho3
    go_wp2_with fail
    go_region_with (first | (go_at_call 31; refine (clone_in0 _).mono ?_; rintro e wx ⟨rfl, rfl⟩) | (go_at_call 32; refine (clone_bo0 _).mono ?_; rintro e wx ⟨rfl, rfl⟩))
    all_goals
      have hq5 : Blk (((w3.setCell ⟨w.heap.size, 19, none⟩ (.slice none 0 0)).setCell ⟨w.heap.size, 24, none⟩ (.slice none 0 0)).drew) w.heap.size 32 (innL r wk st ot (.slice A' bs.length c')) := H4.out.set 24 _
      have hre5 : Blk (((w3.setCell ⟨w.heap.size, 19, none⟩ (.slice none 0 0)).setCell ⟨w.heap.size, 24, none⟩ (.slice none 0 0)).drew) (w.heap.size + 1) 32 zeroL := (HRE3.out.other (by omega) _ _).other (by omega) _ _
      have hb5 : Below w.heap.size w (((w3.setCell ⟨w.heap.size, 19, none⟩ (.slice none 0 0)).setCell ⟨w.heap.size, 24, none⟩ (.slice none 0 0)).drew) := (below_set (below_set HB3.out (Nat.le_refl _) _ _) (Nat.le_refl _) _ _).drew
      have ho5 : (((w3.setCell ⟨w.heap.size, 19, none⟩ (.slice none 0 0)).setCell ⟨w.heap.size, 24, none⟩ (.slice none 0 0)).drew).ownsRow w.heap.size 50 1 (.slice A' bs.length c') bs.length bs := own_other (own_other HO3.out HN1.out _ _) HN1.out _ _
      clear HO3 H4 f1 f2 g1 g2 c1 c2 HB3 HRE3
      generalize ((w3.setCell ⟨w.heap.size, 19, none⟩ (.slice none 0 0)).setCell ⟨w.heap.size, 24, none⟩ (.slice none 0 0)).drew = w5 at hq5 hre5 hb5 ho5 ⊢
      have HQ5 := Lib.hid hq5
      have HRE5 := Lib.hid hre5
      have HB5 := Lib.hid hb5
      have HO5 := Lib.hid ho5
      clear hq5 ho5 hb5 hre5
      go_wp2_with (first
        | (refine wpList_load_row rfl 32 _ rfl w.heap.size (by rfl) 32 (innL r wk st ot (.slice A' bs.length c')).toArray (0, 0) _ HQ5.out Try.underlying32 rfl inn_info ?_)
        | (refine wpList_storeC rfl _ _ 32 rfl (w.heap.size + 1) 32 zeroL (innL r wk st ot (.slice A' bs.length c')).toArray inn_info (by rfl) (by rfl) HRE5.out rfl (inn_one _ _ _ _ _ _ _) ?_))
      refine ret_cell (g := w.heap.size + 1) (xs := innL r wk st ot (.slice A' bs.length c')) rfl rfl (blk_row HRE5.out _) Try.underlying32 rfl inn_info rfl ?_
      exact ⟨_, rfl, own_row HO5.out HN2.out _, row_below HB5.out (by omega) _⟩
end Go.Proofs.Ytjlmlafiojpjmaa
