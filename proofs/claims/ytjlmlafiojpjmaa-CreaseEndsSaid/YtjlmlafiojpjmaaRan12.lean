/-
  Chapter 12: Ran of a delivery without a dismissal.
-/
import Derived.Test.YtjlmlafiojpjmaaSide12
import Derived.Test.YtjlmlafiojpjmaaOwn12
namespace Go.Proofs.Ytjlmlafiojpjmaa
open Go.RowKit

theorem entry3 (w : World) (c1 c2 c3 : List Value) (e1 e2 e3 : TypeId) : Blk (((w.alloc (.cells c1.toArray e1)).alloc (.cells c2.toArray e2)).alloc (.cells c3.toArray e3)) w.heap.size e1 c1 ∧ Blk (((w.alloc (.cells c1.toArray e1)).alloc (.cells c2.toArray e2)).alloc (.cells c3.toArray e3)) (w.heap.size + 1) e2 c2 ∧
    Blk (((w.alloc (.cells c1.toArray e1)).alloc (.cells c2.toArray e2)).alloc (.cells c3.toArray e3)) (w.heap.size + 1 + 1) e3 c3 ∧ Below w.heap.size w (((w.alloc (.cells c1.toArray e1)).alloc (.cells c2.toArray e2)).alloc (.cells c3.toArray e3)) := by
  have h2 := entry2 w c1 c2 e1 e2
  exact ⟨h2.1.to (cur_new _ _), h2.2.1.to (cur_new _ _), three_new w _ _ _, cur_step1 h2.2.2 (cur_new _ _)⟩

set_option maxRecDepth 100000 in
set_option maxHeartbeats 1000000 in
theorem ran_ok (r : Rst) (wk st ot a1 a2 runs a3 a4 vi a5 a6 a8 : Int) (a7 : Bool) (A : Option Addr) (n c : Nat) (xs : List Value) (w : World) (hl : n ≤ 1000000) (h1 : ∀ u ∈ xs, u.oneCell' = true) (hxl : xs.length = n) (hr : Lst w (.slice A n c) xs)
    (hru : 0 ≤ runs ∧ runs ≤ 1000) (st' ot' : Int) (hres : if runs % 2 = 0 then st' = st ∧ ot' = ot else st' = ot ∧ ot' = st) :
    Calls Try.prog 9 #[innV r wk st ot (.slice A n c), .agg #[.int .u8 a1, .int .u8 a2, .int .i64 runs, .int .i64 a3, .int .i64 a4, .bool false, .int .u8 0, .int .i64 vi, .int .i64 a5, .int .i64 a6, .bool a7, .int .i64 a8]] w fun e w' => ∃ B', e = .returned (innV r wk st' ot' B') ∧ w'.ownsRow w.heap.size 50 1 B' n xs ∧ Below w.heap.size w w' := by
  have HXL := Lib.hid hxl
  have HR := Lib.hid hr
  have H1 := Lib.hid h1
  clear hxl hr h1
  by_cases hev : runs % 2 = 0
  · rw [if_pos hev] at hres
    obtain ⟨e1, e2⟩ := hres
    subst st' ot'
    have HEV := Lib.hid hev
    have hpar : (runs % 2 != 0) = false := by simpa using hev
    clear hev
    go_enter Try.func9, Try.ntmps9
    go_wp2_with (first
      | (refine wpList_load_row rfl 32 _ rfl w.heap.size (by rfl) 32 (innL r wk st ot (.slice A n c)).toArray (0, 0) _ (((Blk.new w _ _).to (cur_new _ _)).to (cur_new _ _)) Try.underlying32 rfl inn_info ?_))
    obtain ⟨hin, hd, hre, hb0⟩ := entry3 w (innL r wk st ot (.slice A n c)) [.int .u8 a1, .int .u8 a2, .int .i64 runs, .int .i64 a3, .int .i64 a4, .bool false, .int .u8 0, .int .i64 vi, .int .i64 a5, .int .i64 a6, .bool a7, .int .i64 a8] [.int .i64 0, .int .i64 0, .int .i64 0, .int .i64 0, .int .i64 0, .int .i64 0, .int .i64 0, .int .i64 0, .int .i64 0, .int .i64 0, .int .i64 0, .int .i64 0, .int .i64 0, .int .i64 0, .slice none 0 0, .int .i64 0, .slice none 0 0, .slice none 0 0, .bool false, .slice none 0 0, .bool false, .int .i64 0, .int .i64 0, .int .i64 0, .slice none 0 0, .int .i64 0, .int .i64 0, .int .u8 0] 32 42 32
    generalize ((w.alloc (Obj.cells (innL r wk st ot (.slice A n c)).toArray 32)).alloc (Obj.cells [.int .u8 a1, .int .u8 a2, .int .i64 runs, .int .i64 a3, .int .i64 a4, .bool false, .int .u8 0, .int .i64 vi, .int .i64 a5, .int .i64 a6, .bool a7, .int .i64 a8].toArray 42)).alloc (Obj.cells [.int .i64 0, .int .i64 0, .int .i64 0, .int .i64 0, .int .i64 0, .int .i64 0, .int .i64 0, .int .i64 0, .int .i64 0, .int .i64 0, .int .i64 0, .int .i64 0, .int .i64 0, .int .i64 0, .slice none 0 0, .int .i64 0, .slice none 0 0, .slice none 0 0, .bool false, .slice none 0 0, .bool false, .int .i64 0, .int .i64 0, .int .i64 0, .slice none 0 0, .int .i64 0, .int .i64 0, .int .u8 0].toArray 32) = w0 at hin hd hre hb0 ⊢
    refine (own_f r wk st ot (.slice A n c) xs w0 (by have := HXL.out; omega) (HR.out.to hb0) H1.out).mono ?_
    rintro e w1 ⟨B', rfl, hown, hb1⟩
    have hb00 := hb0.size
    have HW0 : w.heap.size + 1 + 1 < w0.heap.size := hre.lt
    have hdd := hd.to hb1
    have HRE := Lib.hid (hre.to hb1)
    have HB1 := Lib.hid (cur_step1 hb0 hb1)
    have hlt : w.heap.size + 1 + 1 < w1.heap.size := HRE.out.lt
    have hlt1 : w.heap.size + 1 < w1.heap.size := by omega
    rw [HXL.out] at hown
    obtain ⟨A', c', rfl⟩ := own_form hown
    have hrg := own_range hown
    have HN1 := Lib.hid (fun k hk => (by have := hrg k hk; omega : k ≠ w1.heap.size))
    have HN2 := Lib.hid (fun k hk => (by have := hrg k hk; have := HW0; omega : k ≠ w.heap.size + 1 + 1))
    have HO := Lib.hid (own_mono hown hb00)
    have cd2 : w1.cell? ⟨w.heap.size + 1, 2, none⟩ = some (.int .i64 runs) := hdd.cell 2
    have cd5 : w1.cell? ⟨w.heap.size + 1, 5, none⟩ = some (.bool false) := hdd.cell 5
    have cd6 : w1.cell? ⟨w.heap.size + 1, 6, none⟩ = some (.int .u8 0) := hdd.cell 6
    clear hown hin hd hre hb1 hb0 hrg hdd hb00
    go_wp2_with (first
      | (refine wpList_storeNew rfl _ _ 32 rfl _ (innL r wk st ot (.slice A' n c')).toArray inn_info (by rfl) (by rfl) rfl (inn_one _ _ _ _ _ _ _) ?_)
      | (refine wpList_load_row rfl 32 _ rfl w1.heap.size (by rfl) 32 (innL r wk st ot (.slice A' n c')).toArray (0, 0) _ (Blk.new w1 _ _) Try.underlying32 rfl inn_info ?_)
      | (refine wpList_storeC rfl _ _ 32 rfl (w.heap.size + 1 + 1) 32 zeroL (innL r wk st ot (.slice A' n c')).toArray inn_info (by rfl) (by rfl) (HRE.out.to (cur_new w1 _)) rfl (inn_one _ _ _ _ _ _ _) ?_))
    refine ret_cell (g := w.heap.size + 1 + 1) (xs := innL r wk st ot (.slice A' n c')) rfl rfl (blk_row (HRE.out.to (cur_new w1 _)) _) Try.underlying32 rfl inn_info rfl ?_
    exact ⟨_, rfl, own_row (own_below HO.out (cur_new w1 _) (Nat.le_refl _)) HN2.out _, row_below (cur_step1 HB1.out (cur_new w1 _)) (by omega) _⟩
  · rw [if_neg hev] at hres
    obtain ⟨e1, e2⟩ := hres
    subst st' ot'
    have HEV := Lib.hid hev
    have hpar : (runs % 2 != 0) = true := by simpa using hev
    clear hev
    go_enter Try.func9, Try.ntmps9
    go_wp2_with (first
      | (refine wpList_load_row rfl 32 _ rfl w.heap.size (by rfl) 32 (innL r wk st ot (.slice A n c)).toArray (0, 0) _ (((Blk.new w _ _).to (cur_new _ _)).to (cur_new _ _)) Try.underlying32 rfl inn_info ?_))
    obtain ⟨hin, hd, hre, hb0⟩ := entry3 w (innL r wk st ot (.slice A n c)) [.int .u8 a1, .int .u8 a2, .int .i64 runs, .int .i64 a3, .int .i64 a4, .bool false, .int .u8 0, .int .i64 vi, .int .i64 a5, .int .i64 a6, .bool a7, .int .i64 a8] [.int .i64 0, .int .i64 0, .int .i64 0, .int .i64 0, .int .i64 0, .int .i64 0, .int .i64 0, .int .i64 0, .int .i64 0, .int .i64 0, .int .i64 0, .int .i64 0, .int .i64 0, .int .i64 0, .slice none 0 0, .int .i64 0, .slice none 0 0, .slice none 0 0, .bool false, .slice none 0 0, .bool false, .int .i64 0, .int .i64 0, .int .i64 0, .slice none 0 0, .int .i64 0, .int .i64 0, .int .u8 0] 32 42 32
    generalize ((w.alloc (Obj.cells (innL r wk st ot (.slice A n c)).toArray 32)).alloc (Obj.cells [.int .u8 a1, .int .u8 a2, .int .i64 runs, .int .i64 a3, .int .i64 a4, .bool false, .int .u8 0, .int .i64 vi, .int .i64 a5, .int .i64 a6, .bool a7, .int .i64 a8].toArray 42)).alloc (Obj.cells [.int .i64 0, .int .i64 0, .int .i64 0, .int .i64 0, .int .i64 0, .int .i64 0, .int .i64 0, .int .i64 0, .int .i64 0, .int .i64 0, .int .i64 0, .int .i64 0, .int .i64 0, .int .i64 0, .slice none 0 0, .int .i64 0, .slice none 0 0, .slice none 0 0, .bool false, .slice none 0 0, .bool false, .int .i64 0, .int .i64 0, .int .i64 0, .slice none 0 0, .int .i64 0, .int .i64 0, .int .u8 0].toArray 32) = w0 at hin hd hre hb0 ⊢
    refine (own_f r wk st ot (.slice A n c) xs w0 (by have := HXL.out; omega) (HR.out.to hb0) H1.out).mono ?_
    rintro e w1 ⟨B', rfl, hown, hb1⟩
    have hb00 := hb0.size
    have HW0 : w.heap.size + 1 + 1 < w0.heap.size := hre.lt
    have hdd := hd.to hb1
    have HRE := Lib.hid (hre.to hb1)
    have HB1 := Lib.hid (cur_step1 hb0 hb1)
    have hlt : w.heap.size + 1 + 1 < w1.heap.size := HRE.out.lt
    have hlt1 : w.heap.size + 1 < w1.heap.size := by omega
    rw [HXL.out] at hown
    obtain ⟨A', c', rfl⟩ := own_form hown
    have hrg := own_range hown
    have HN1 := Lib.hid (fun k hk => (by have := hrg k hk; omega : k ≠ w1.heap.size))
    have HN2 := Lib.hid (fun k hk => (by have := hrg k hk; have := HW0; omega : k ≠ w.heap.size + 1 + 1))
    have HO := Lib.hid (own_mono hown hb00)
    have cd2 : w1.cell? ⟨w.heap.size + 1, 2, none⟩ = some (.int .i64 runs) := hdd.cell 2
    have cd5 : w1.cell? ⟨w.heap.size + 1, 5, none⟩ = some (.bool false) := hdd.cell 5
    have cd6 : w1.cell? ⟨w.heap.size + 1, 6, none⟩ = some (.int .u8 0) := hdd.cell 6
    clear hown hin hd hre hb1 hb0 hrg hdd hb00
    go_wp2_with (first
      | (refine wpList_load_row rfl 32 _ rfl w1.heap.size (by rfl) 32 (innL r wk ot st (.slice A' n c')).toArray (0, 0) _ H4.out Try.underlying32 rfl inn_info ?_)
      | (refine wpList_storeC rfl _ _ 32 rfl (w.heap.size + 1 + 1) 32 zeroL (innL r wk ot st (.slice A' n c')).toArray inn_info (by rfl) (by rfl) HRE3.out rfl (inn_one _ _ _ _ _ _ _) ?_)
      | (guard_target =~ wpList _ _ _ _ _ (World.alloc _ _); refine wpList_storeNew rfl _ _ 32 rfl _ (innL r wk st ot (.slice A' n c')).toArray inn_info (by rfl) (by rfl) rfl (inn_one _ _ _ _ _ _ _) ?_; have hb2 := cur_new w1 (.cells (innL r wk st ot (.slice A' n c')).toArray 32); have haf := Blk.new w1 32 (innL r wk st ot (.slice A' n c')); generalize w1.alloc (Obj.cells (innL r wk st ot (.slice A' n c')).toArray 32) = w2 at hb2 haf ⊢; have HRE2 := Lib.hid (HRE.out.to hb2); have HB2 := Lib.hid (cur_step1 HB1.out hb2); have HO2 := Lib.hid (own_below HO.out hb2 (Nat.le_refl _)); have c3 : w2.cell? ⟨w1.heap.size, 12, none⟩ = some (.int .i64 st) := haf.cell 12; have c4 : w2.cell? ⟨w1.heap.size, 13, none⟩ = some (.int .i64 ot) := haf.cell 13; have f1 := haf.frozen 12; have f2 := haf.frozen 13; have h3 := haf.set 12 (.int .i64 ot); have c5 : (w2.setCell ⟨w1.heap.size, 12, none⟩ (.int .i64 ot)).cell? ⟨w1.heap.size, 13, none⟩ = some (.int .i64 ot) := h3.cell 13; have f3 := h3.frozen 13; have H4 := Lib.hid (show Blk ((w2.setCell ⟨w1.heap.size, 12, none⟩ (.int .i64 ot)).setCell ⟨w1.heap.size, 13, none⟩ (.int .i64 st)) w1.heap.size 32 (innL r wk ot st (.slice A' n c')) from h3.set 13 (.int .i64 st)); have HRE3 := Lib.hid ((HRE2.out.other (g' := w1.heap.size) (by omega) 12 (.int .i64 ot)).other (g' := w1.heap.size) (by omega) 13 (.int .i64 st)); have cd2' := (hb2.cell (p := ⟨w.heap.size + 1, 2, none⟩) hlt1).trans cd2; have cd5' := (hb2.cell (p := ⟨w.heap.size + 1, 5, none⟩) hlt1).trans cd5; have cd6' := (hb2.cell (p := ⟨w.heap.size + 1, 6, none⟩) hlt1).trans cd6; clear h3 haf hb2 HRE HB1 HO cd2 cd5 cd6))
    refine ret_cell (g := w.heap.size + 1 + 1) (xs := innL r wk ot st (.slice A' n c')) rfl rfl (blk_row HRE3.out _) Try.underlying32 rfl inn_info rfl ?_
    exact ⟨_, rfl, own_row (own_other (own_other HO2.out HN1.out _ _) HN1.out _ _) HN2.out _, row_below (below_set (below_set HB2.out (by omega) _ _) (by omega) _ _) (by omega) _⟩
end Go.Proofs.Ytjlmlafiojpjmaa
