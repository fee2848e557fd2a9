/-
  Chapter 12: may and Enter, where the batter may come in to the striker's place.
-/
import Derived.Test.YtjlmlafiojpjmaaSide12
import Derived.Test.YtjlmlafiojpjmaaOwn12
namespace Go.Proofs.Ytjlmlafiojpjmaa
open Go.RowKit

set_option maxRecDepth 100000 in
set_option maxHeartbeats 1000000 in
theorem may_ok (r : Rst) (wk ot : Int) (P : Nat) (A : Option Addr) (n c : Nat) (bs : List Int) (w : World) (hl : n ≤ 1000000) (hbl : bs.length = n) (hr : Lst w (.slice A n c) (stC bs)) (hbg : begunL bs = true) (hP : bs[P]? = some 0) :
    Calls Try.prog 30 #[innV r wk 0 ot (.slice A n c), .int .i64 (P + 1)] w fun e w' => e = .returned (.int .i64 0) ∧ Below w.heap.size w w' := by
  have hPn : P < n := by rw [← hbl]; exact (List.getElem?_eq_some_iff.1 hP).1
  have HR := Lib.hid hr
  have HBG := Lib.hid hbg
  have HP := Lib.hid (stC_at hP)
  have HBL := Lib.hid hbl
  clear hr hbg hP hbl
  go_enter Try.func30, Try.ntmps30
  go_wp2_with (refine wpList_load_row rfl 32 _ rfl w.heap.size (by rfl) 32 (innL r wk 0 ot (.slice A n c)).toArray (0, 0) _ (Blk.new w _ _) Try.underlying32 rfl inn_info ?_)
  refine (known_f r wk 0 ot (P + 1) A n c true _ hl (by simp; omega)).mono ?_
  rintro e w1 ⟨rfl, hb1⟩
  have HIN := Lib.hid ((Blk.new w 32 (innL r wk 0 ot (.slice A n c))).to hb1)
  have HB1 := Lib.hid (cur_step0 hb1)
  clear hb1
  go_wp2_with (first
    | (refine wpList_load_row rfl 32 _ rfl w.heap.size (by rfl) 32 (innL r wk 0 ot (.slice A n c)).toArray (0, 0) _ HIN.out Try.underlying32 rfl inn_info ?_)
    | (refine wpList_load_g (by rfl) 32 _ rfl w.heap.size (by rfl) 32 (innL r wk 0 ot (.slice A n c)).toArray (0, 0) _ HIN.out Try.underlying32 rfl inn_info ?_))
  refine (vacant_f r wk 0 ot (.slice A n c) bs true _ (by have := HBL.out; omega) (HR.out.to HB1.out) (by rw [HBG.out]; rfl)).mono ?_
  rintro e w2 ⟨rfl, hb2⟩
  have hin := HIN.out.to hb2
  have HB2 := Lib.hid (cur_step1 HB1.out hb2)
  obtain ⟨b, off, rfl, hcl⟩ : ∃ b off, A = some ⟨b, off, none⟩ ∧ w2.cell? ⟨b, off + P, none⟩ = some (.int .u8 0) := by
    rcases HR.out.to HB2.out with ⟨e, _⟩ | ⟨b, off, c1, e, _, _, hx⟩
    · injection e with _ e _; omega
    · injection e with e _ _; exact ⟨b, off, e, hx P _ HP.out⟩
  have hcap : n ≤ c := by
    rcases HR.out with ⟨e, _⟩ | ⟨b, off, c1, e, hc, _, hx⟩
    · injection e with _ e _; omega
    · injection e with _ e1 e2; rw [stC_len] at hc; have := HBL.out; omega
  have c14 : w2.cell? ⟨w.heap.size, 14, none⟩ = some (.slice (some ⟨b, off, none⟩) n c) := hin.cell 14
  clear hin hb2
  go_wp2
  go_ret
  exact ⟨rfl, HB2.out⟩
set_option maxRecDepth 100000 in
set_option maxHeartbeats 1000000 in
theorem enter_ok (r : Rst) (wk ot : Int) (P : Nat) (A : Option Addr) (n c : Nat) (bs : List Int) (xs : List Value) (w : World) (hl : n ≤ 1000000) (hxs : stC bs = xs) (hxl : xs.length = n) (hr : Lst w (.slice A n c) xs) (hbg : begunL bs = true) (hP : bs[P]? = some 0) :
    Calls Try.prog 20 #[innV r wk 0 ot (.slice A n c), .int .i64 (P + 1)] w fun e w' => ∃ B', e = .returned (.tuple #[innV r wk (P + 1) ot B', .int .i64 0]) ∧ w'.ownsRow w.heap.size 50 1 B' n (xs.set P (.int .u8 1)) ∧ Below w.heap.size w w' := by
  have h1 : ∀ u ∈ xs, u.oneCell' = true := by rw [← hxs]; exact stC_one bs
  have hbl : bs.length = n := by rw [← hxl, ← hxs, stC_len]
  have hPn : P < n := by rw [← hbl]; exact (List.getElem?_eq_some_iff.1 hP).1
  have HBG := Lib.hid hbg
  have HXS := Lib.hid hxs
  have HXL := Lib.hid hxl
  have HR := Lib.hid hr
  have HP := Lib.hid hP
  have HBL := Lib.hid hbl
  clear hbg hxs hP hbl
  go_enter Try.func20, Try.ntmps20
  go_wp2_with (first
    | (refine wpList_load_row rfl 32 _ rfl w.heap.size (by rfl) 32 (innL r wk 0 ot (.slice A n c)).toArray (0, 0) _ ((Blk.new w _ _).to (cur_new _ _)) Try.underlying32 rfl inn_info ?_))
  obtain ⟨hin, hre, hb0⟩ := entry2 w (innL r wk 0 ot (.slice A n c)) [.int .i64 0, .int .i64 0, .int .i64 0, .int .i64 0, .int .i64 0, .int .i64 0, .int .i64 0, .int .i64 0, .int .i64 0, .int .i64 0, .int .i64 0, .int .i64 0, .int .i64 0, .int .i64 0, .slice none 0 0, .int .i64 0, .slice none 0 0, .slice none 0 0, .bool false, .slice none 0 0, .bool false, .int .i64 0, .int .i64 0, .int .i64 0, .slice none 0 0, .int .i64 0, .int .i64 0, .int .u8 0] 32 32
  generalize (w.alloc (Obj.cells (innL r wk 0 ot (.slice A n c)).toArray 32)).alloc (Obj.cells [.int .i64 0, .int .i64 0, .int .i64 0, .int .i64 0, .int .i64 0, .int .i64 0, .int .i64 0, .int .i64 0, .int .i64 0, .int .i64 0, .int .i64 0, .int .i64 0, .int .i64 0, .int .i64 0, .slice none 0 0, .int .i64 0, .slice none 0 0, .slice none 0 0, .bool false, .slice none 0 0, .bool false, .int .i64 0, .int .i64 0, .int .i64 0, .slice none 0 0, .int .i64 0, .int .i64 0, .int .u8 0].toArray 32) = w0 at hin hre hb0 ⊢
  refine (own_f r wk 0 ot (.slice A n c) xs w0 (by omega) (HR.out.to hb0) h1).mono ?_
  rintro e w1 ⟨B', rfl, hown, hb1⟩
  have hb00 := hb0.size
  have HW0 : w.heap.size + 1 < w0.heap.size := hre.lt
  have HIN := Lib.hid (hin.to hb1)
  have HRE := Lib.hid (hre.to hb1)
  have HB1 := Lib.hid (cur_step1 hb0 hb1)
  have hlt : w.heap.size + 1 < w1.heap.size := HRE.out.lt
  rw [HXL.out] at hown
  obtain ⟨A', c', rfl⟩ := own_form hown
  have hrg := own_range hown
  have HN1 := Lib.hid (fun k hk => (by have := hrg k hk; omega : k ≠ w1.heap.size))
  have HN2 := Lib.hid (fun k hk => (by have := hrg k hk; have := HW0; omega : k ≠ w.heap.size + 1))
  have HN0 := Lib.hid (fun k hk => (by have := hrg k hk; have := HW0; omega : k ≠ w.heap.size))
  have HNB := Lib.hid (fun k hk => (by have := hrg k hk; omega : w.heap.size ≤ k))
  have HO := Lib.hid hown
  clear hown hin hre hb1 hb0 hrg
  go_wp2_with (first
    | (refine wpList_storeNew rfl _ _ 32 rfl _ (innL r wk 0 ot (.slice A' n c')).toArray inn_info (by rfl) (by rfl) rfl (inn_one _ _ _ _ _ _ _) ?_)
    | (refine wpList_load_row rfl 32 _ rfl w.heap.size (by rfl) 32 (innL r wk 0 ot (.slice A n c)).toArray (0, 0) _ (HIN.out.to (cur_new w1 _)) Try.underlying32 rfl inn_info ?_))
  have hb2 := cur_new w1 (.cells (innL r wk 0 ot (.slice A' n c')).toArray 32)
  have haf := Blk.new w1 32 (innL r wk 0 ot (.slice A' n c'))
  generalize w1.alloc (Obj.cells (innL r wk 0 ot (.slice A' n c')).toArray 32) = w2 at hb2 haf ⊢
  have HIN2 := Lib.hid (HIN.out.to hb2)
  have HRE2 := Lib.hid (HRE.out.to hb2)
  have HAF2 := Lib.hid haf
  have HB2 := Lib.hid (cur_step1 HB1.out hb2)
  have HO2 := Lib.hid (own_mono (own_below HO.out hb2 (Nat.le_refl _)) (hb00))
  clear haf hb2 HIN HRE HB1 HO hb00
  have hlr : Lst w2 (.slice A n c) (stC bs) := by rw [HXS.out]; exact HR.out.to HB2.out
  have HLR := Lib.hid hlr
  clear hlr hr hxl h1
  refine (may_ok r wk ot P A n c bs w2 hl HBL.out HLR.out HBG.out HP.out).mono ?_
  rintro e w3 ⟨rfl, hb3⟩
  have HIN3 := Lib.hid (HIN2.out.to hb3)
  have HRE3 := Lib.hid (HRE2.out.to hb3)
  have HAF3 := Lib.hid (HAF2.out.to hb3)
  have HB3 := Lib.hid (cur_step1 HB2.out hb3)
  have HO3 := Lib.hid (own_below HO2.out hb3 (Nat.le_refl _))
  clear HIN2 HRE2 HAF2 HB2 HO2 hb3
  obtain ⟨b, rfl⟩ : ∃ b, A' = some ⟨b, 0, none⟩ := by
    rcases HO3.out.2 with ⟨h, hn0⟩ | ⟨g', cap, cur, h, _⟩
    · omega
    · injection h with h _ _
      exact ⟨g', h⟩
  have hcc := own_cap HO3.out
  have hb1 : b ≠ w1.heap.size := HN1.out b rfl
  have hb2 : b ≠ w.heap.size + 1 := HN2.out b rfl
  have hbB : w.heap.size ≤ b := HNB.out b rfl
  have c14 : w3.cell? ⟨w1.heap.size, 14, none⟩ = some (.slice (some ⟨b, 0, none⟩) n c') := HAF3.out.cell 14
  obtain ⟨u, hu⟩ : ∃ u, xs[P]? = some u := ⟨_, List.getElem?_eq_getElem (by have := HXL.out; omega)⟩
  have cp := HO3.out.cellAt P (by omega)
  rw [hu] at cp
  have fp := HO3.out.frozenAt P
  have hPc : P < c' := by omega
  have hA4 := HAF3.out.other (Ne.symm hb1) P (.int .u8 1)
  have c12 : (w3.setCell ⟨b, P, none⟩ (.int .u8 1)).cell? ⟨w1.heap.size, 12, none⟩ = some (.int .i64 0) := hA4.cell 12
  have f12 := hA4.frozen 12
  have HA5 := Lib.hid (show Blk ((w3.setCell ⟨b, P, none⟩ (.int .u8 1)).setCell ⟨w1.heap.size, 12, none⟩ (.int .i64 (P + 1))) w1.heap.size 32 (innL r wk (P + 1) ot (.slice (some ⟨b, 0, none⟩) n c')) from hA4.set 12 (.int .i64 (P + 1)))
  have HRE5 := Lib.hid ((HRE3.out.other (Ne.symm hb2) P (.int .u8 1)).other (g' := w1.heap.size) (by omega) 12 (.int .i64 (P + 1)))
  have HB5 := Lib.hid (below_set (below_set HB3.out hbB P (.int .u8 1)) (show w.heap.size ≤ w1.heap.size by omega) 12 (.int .i64 (P + 1)))
  have HO5 := Lib.hid (own_other (HO3.out.stored P (.int .u8 1)).1 HN1.out 12 (.int .i64 (P + 1)))
  clear hu hA4 HAF3 HRE3 HO3 HB3
  go_wp2_with (first
    | (refine wpList_load_row rfl 32 _ rfl w1.heap.size (by rfl) 32 (innL r wk (P + 1) ot (.slice (some ⟨b, 0, none⟩) n c')).toArray (0, 0) _ HA5.out Try.underlying32 rfl inn_info ?_)
    | (refine wpList_storeC rfl _ _ 32 rfl (w.heap.size + 1) 32 zeroL (innL r wk (P + 1) ot (.slice (some ⟨b, 0, none⟩) n c')).toArray inn_info (by rfl) (by rfl) HRE5.out rfl (inn_one _ _ _ _ _ _ _) ?_))
  refine ret_cell2 (g := w.heap.size + 1) (xs := innL r wk (P + 1) ot (.slice (some ⟨b, 0, none⟩) n c')) rfl rfl rfl (blk_row HRE5.out _) Try.underlying32 rfl inn_info rfl ?_
  exact ⟨_, rfl, own_row HO5.out HN2.out _, row_below HB5.out (by omega) _⟩
end Go.Proofs.Ytjlmlafiojpjmaa
