/-
  Chapter 12: Open.
-/
import Derived.Test.YtjlmlafiojpjmaaSide12
import Derived.Test.YtjlmlafiojpjmaaOwn12
namespace Go.Proofs.Ytjlmlafiojpjmaa
open Go.RowKit

set_option maxRecDepth 100000 in
set_option maxHeartbeats 1000000 in
theorem open_ok (r : Rst) (wk st ot p q : Int) (A : Option Addr) (n c : Nat) (bs : List Int) (xs : List Value) (w : World) (hl : n ≤ 1000000) (hxs : stC bs = xs) (hxl : xs.length = n) (hr : Lst w (.slice A n c) xs) (hbg : begunL bs = false)
    (hp : 1 ≤ p ∧ p ≤ n) (hq : 1 ≤ q ∧ q ≤ n) (hne : p ≠ q) :
    Calls Try.prog 7 #[innV r wk st ot (.slice A n c), .int .i64 p, .int .i64 q] w fun e w' => ∃ B', e = .returned (.tuple #[innV r wk p q B', .int .i64 0]) ∧ w'.ownsRow w.heap.size 50 1 B' n ((xs.set (p.toNat - 1) (.int .u8 1)).set (q.toNat - 1) (.int .u8 1)) ∧ Below w.heap.size w w' := by
  have h1 : ∀ u ∈ xs, u.oneCell' = true := by rw [← hxs]; exact stC_one bs
  obtain ⟨P, rfl⟩ : ∃ P : Nat, p = P + 1 := ⟨p.toNat - 1, by omega⟩
  obtain ⟨Q, rfl⟩ : ∃ Q : Nat, q = Q + 1 := ⟨q.toNat - 1, by omega⟩
  have hbl : bs.length = n := by rw [← hxl, ← hxs, stC_len]
  have HBG := Lib.hid hbg
  have HXS := Lib.hid hxs
  have HXL := Lib.hid hxl
  have HR := Lib.hid hr
  have e1 : ((P : Int) + 1 == (Q : Int) + 1) = false := by simp; omega
  clear hbg hxs
  go_enter Try.func7, Try.ntmps7
  go_wp2_with (first
    | (refine wpList_load_row rfl 32 _ rfl w.heap.size (by rfl) 32 (innL r wk st ot (.slice A n c)).toArray (0, 0) _ ((Blk.new w _ _).to (cur_new _ _)) Try.underlying32 rfl inn_info ?_))
  obtain ⟨hin, hre, hb0⟩ := entry2 w (innL r wk st ot (.slice A n c)) [.int .i64 0, .int .i64 0, .int .i64 0, .int .i64 0, .int .i64 0, .int .i64 0, .int .i64 0, .int .i64 0, .int .i64 0, .int .i64 0, .int .i64 0, .int .i64 0, .int .i64 0, .int .i64 0, .slice none 0 0, .int .i64 0, .slice none 0 0, .slice none 0 0, .bool false, .slice none 0 0, .bool false, .int .i64 0, .int .i64 0, .int .i64 0, .slice none 0 0, .int .i64 0, .int .i64 0, .int .u8 0] 32 32
  generalize (w.alloc (Obj.cells (innL r wk st ot (.slice A n c)).toArray 32)).alloc (Obj.cells [.int .i64 0, .int .i64 0, .int .i64 0, .int .i64 0, .int .i64 0, .int .i64 0, .int .i64 0, .int .i64 0, .int .i64 0, .int .i64 0, .int .i64 0, .int .i64 0, .int .i64 0, .int .i64 0, .slice none 0 0, .int .i64 0, .slice none 0 0, .slice none 0 0, .bool false, .slice none 0 0, .bool false, .int .i64 0, .int .i64 0, .int .i64 0, .slice none 0 0, .int .i64 0, .int .i64 0, .int .u8 0].toArray 32) = w0 at hin hre hb0 ⊢
  refine (own_f r wk st ot (.slice A n c) xs w0 (by omega) (HR.out.to hb0) h1).mono ?_
  rintro e w1 ⟨B', rfl, hown, hb1⟩
  have hb00 := hb0.size
  have HW0 : w.heap.size + 1 < w0.heap.size := hre.lt
  have HIN := Lib.hid (hin.to hb1)
  have HRE := Lib.hid (hre.to hb1)
  have HB1 := Lib.hid (cur_step1 hb0 hb1)
  have hlt : w.heap.size + 1 < w1.heap.size := HRE.out.lt
  rw [HXL.out] at hown
  obtain ⟨A', c', rfl⟩ := own_form hown
  have hrg := own_range hown
  have HN1 := Lib.hid (fun k hk => (by have := hrg k hk; omega : k ≠ w1.heap.size))
  have HN2 := Lib.hid (fun k hk => (by have := hrg k hk; have := HW0; omega : k ≠ w.heap.size + 1))
  have HN0 := Lib.hid (fun k hk => (by have := hrg k hk; have := HW0; omega : k ≠ w.heap.size))
  have HNB := Lib.hid (fun k hk => (by have := hrg k hk; omega : w.heap.size ≤ k))
  have HO := Lib.hid hown
  clear hown hin hre hb1 hb0 hrg
  go_wp2_with (first
    | (refine wpList_storeNew rfl _ _ 32 rfl _ (innL r wk st ot (.slice A' n c')).toArray inn_info (by rfl) (by rfl) rfl (inn_one _ _ _ _ _ _ _) ?_)
    | (refine wpList_load_row rfl 32 _ rfl w.heap.size (by rfl) 32 (innL r wk st ot (.slice A n c)).toArray (0, 0) _ (HIN.out.to (cur_new w1 _)) Try.underlying32 rfl inn_info ?_))
  have hb2 := cur_new w1 (.cells (innL r wk st ot (.slice A' n c')).toArray 32)
  have haf := Blk.new w1 32 (innL r wk st ot (.slice A' n c'))
  generalize w1.alloc (Obj.cells (innL r wk st ot (.slice A' n c')).toArray 32) = w2 at hb2 haf ⊢
  have HIN2 := Lib.hid (HIN.out.to hb2)
  have HRE2 := Lib.hid (HRE.out.to hb2)
  have HAF2 := Lib.hid haf
  have HB2 := Lib.hid (cur_step1 HB1.out hb2)
  have HO2 := Lib.hid (own_mono (own_below HO.out hb2 (Nat.le_refl _)) (hb00))
  clear haf hb2 HIN HRE HB1 HO hb00
  have hlr : Lst w2 (.slice A n c) (stC bs) := by rw [HXS.out]; exact HR.out.to HB2.out
  have HLR := Lib.hid hlr
  clear hlr hr hxl h1
  refine (begun_f r wk st ot (.slice A n c) bs false w2 (by omega) HLR.out HBG.out).mono ?_
  rintro e w3 ⟨rfl, hb3⟩
  have HIN3 := Lib.hid (HIN2.out.to hb3)
  have HRE3 := Lib.hid (HRE2.out.to hb3)
  have HAF3 := Lib.hid (HAF2.out.to hb3)
  have HB3 := Lib.hid (cur_step1 HB2.out hb3)
  have HO3 := Lib.hid (own_below HO2.out hb3 (Nat.le_refl _))
  clear HIN2 HRE2 HAF2 HB2 HO2 hb3
  go_wp2_with (first
    | (refine wpList_load_row rfl 32 _ rfl w.heap.size (by rfl) 32 (innL r wk st ot (.slice A n c)).toArray (0, 0) _ HIN3.out Try.underlying32 rfl inn_info ?_))
  refine (known_f r wk st ot (P + 1) A n c true w3 hl (by simp; omega)).mono ?_
  rintro e w4 ⟨rfl, hb4⟩
  have HIN4 := Lib.hid (HIN3.out.to hb4)
  have HRE4 := Lib.hid (HRE3.out.to hb4)
  have HAF4 := Lib.hid (HAF3.out.to hb4)
  have HB4 := Lib.hid (cur_step1 HB3.out hb4)
  have HO4 := Lib.hid (own_below HO3.out hb4 (Nat.le_refl _))
  clear HIN3 HRE3 HAF3 HB3 HO3 hb4
  go_wp2_with (first
    | (refine wpList_load_row rfl 32 _ rfl w.heap.size (by rfl) 32 (innL r wk st ot (.slice A n c)).toArray (0, 0) _ HIN4.out Try.underlying32 rfl inn_info ?_)
    | (refine wpList_load_g (by rfl) 32 _ rfl w.heap.size (by rfl) 32 (innL r wk st ot (.slice A n c)).toArray (0, 0) _ HIN4.out Try.underlying32 rfl inn_info ?_))
  refine (known_f r wk st ot (Q + 1) A n c true w4 hl (by simp; omega)).mono ?_
  rintro e w5 ⟨rfl, hb5⟩
  have HIN5 := Lib.hid (HIN4.out.to hb5)
  have HRE5 := Lib.hid (HRE4.out.to hb5)
  have HAF5 := Lib.hid (HAF4.out.to hb5)
  have HB5 := Lib.hid (cur_step1 HB4.out hb5)
  have HO5 := Lib.hid (own_below HO4.out hb5 (Nat.le_refl _))
  clear HIN4 HRE4 HAF4 HB4 HO4 hb5
  go_wp2_with fail
  have hP : P < n := by omega
  have hQ : Q < n := by omega
  have hPQ : P ≠ Q := by omega
  obtain ⟨b, rfl⟩ : ∃ b, A' = some ⟨b, 0, none⟩ := by
    rcases HO5.out.2 with ⟨h, hn0⟩ | ⟨g', cap, cur, h, _⟩
    · omega
    · injection h with h _ _
      exact ⟨g', h⟩
  have hcc := own_cap HO5.out
  have hb1 : b ≠ w1.heap.size := HN1.out b rfl
  have hb2 : b ≠ w.heap.size + 1 := HN2.out b rfl
  have hbB : w.heap.size ≤ b := HNB.out b rfl
  have c14 : w5.cell? ⟨w1.heap.size, 14, none⟩ = some (.slice (some ⟨b, 0, none⟩) n c') := HAF5.out.cell 14
  obtain ⟨u, hu⟩ : ∃ u, xs[P]? = some u := ⟨_, List.getElem?_eq_getElem (by have := HXL.out; omega)⟩
  obtain ⟨v, hv⟩ : ∃ v, xs[Q]? = some v := ⟨_, List.getElem?_eq_getElem (by have := HXL.out; omega)⟩
  have cp := HO5.out.cellAt P (by omega)
  rw [hu] at cp
  have cq := HO5.out.cellAt Q (by omega)
  rw [hv] at cq
  have fp := HO5.out.frozenAt P
  have fq := HO5.out.frozenAt Q
  have h6 := (HO5.out.stored P (.int .u8 1)).1
  have cq6 := h6.cellAt Q (by omega)
  rw [List.getElem?_set_ne hPQ, hv] at cq6
  have fq6 := h6.frozenAt Q
  have c146 : (w5.setCell ⟨b, P, none⟩ (.int .u8 1)).cell? ⟨w1.heap.size, 14, none⟩ = some (.slice (some ⟨b, 0, none⟩) n c') := (HAF5.out.other (Ne.symm hb1) P _).cell 14
  have HO7 := Lib.hid (h6.stored Q (.int .u8 1)).1
  have hPc : P < c' := by omega
  have hQc : Q < c' := by omega
  clear h6 hu hv
  go_region
  have W7 : ∃ w7, w7 = ((w5.setCell ⟨b, P, none⟩ (.int .u8 1)).setCell ⟨b, Q, none⟩ (.int .u8 1)).drew := ⟨_, rfl⟩
  have hre6 : Blk ((w5.setCell ⟨b, P, none⟩ (.int .u8 1)).setCell ⟨b, Q, none⟩ (.int .u8 1)).drew (w.heap.size + 1) 32 zeroL := (HRE5.out.other (Ne.symm hb2) _ _).other (Ne.symm hb2) _ _
  have haf6 : Blk ((w5.setCell ⟨b, P, none⟩ (.int .u8 1)).setCell ⟨b, Q, none⟩ (.int .u8 1)).drew w1.heap.size 32 (innL r wk st ot (.slice (some ⟨b, 0, none⟩) n c')) := (HAF5.out.other (Ne.symm hb1) _ _).other (Ne.symm hb1) _ _
  have hbb6 : Below w.heap.size w ((w5.setCell ⟨b, P, none⟩ (.int .u8 1)).setCell ⟨b, Q, none⟩ (.int .u8 1)).drew := (below_set (below_set HB5.out hbB _ _) hbB _ _).drew
  have ho6 : ((w5.setCell ⟨b, P, none⟩ (.int .u8 1)).setCell ⟨b, Q, none⟩ (.int .u8 1)).drew.ownsRow w.heap.size 50 1 (.slice (some ⟨b, 0, none⟩) n c') n ((xs.set P (.int .u8 1)).set Q (.int .u8 1)) := HO7.out
  clear HO7 c146 cq6 fq6 cp cq fp fq c14 HAF5 HO5 HRE5 HB5 HIN5 W7
  generalize ((w5.setCell ⟨b, P, none⟩ (.int .u8 1)).setCell ⟨b, Q, none⟩ (.int .u8 1)).drew = w6 at hre6 haf6 hbb6 ho6 ⊢
  have HRE6 := Lib.hid hre6
  have HB6 := Lib.hid hbb6
  have HO6 := Lib.hid ho6
  have d1 : w6.cell? ⟨w1.heap.size, 12, none⟩ = some (.int .i64 st) := haf6.cell 12
  have d2 : w6.cell? ⟨w1.heap.size, 13, none⟩ = some (.int .i64 ot) := haf6.cell 13
  have f1 := haf6.frozen 12
  have f2 := haf6.frozen 13
  have h7 := haf6.set 12 (.int .i64 (P + 1))
  have d3 : (w6.setCell ⟨w1.heap.size, 12, none⟩ (.int .i64 (P + 1))).cell? ⟨w1.heap.size, 13, none⟩ = some (.int .i64 ot) := h7.cell 13
  have f3 := h7.frozen 13
  have H8 := Lib.hid (h7.set 13 (.int .i64 (Q + 1)))
  clear hre6 hbb6 ho6 haf6 h7
  have HRE8 := Lib.hid ((HRE6.out.other (g' := w1.heap.size) (by omega) 12 (.int .i64 (P + 1))).other (g' := w1.heap.size) (by omega) 13 (.int .i64 (Q + 1)))
  have haf8 : Blk ((w6.setCell ⟨w1.heap.size, 12, none⟩ (.int .i64 (P + 1))).setCell ⟨w1.heap.size, 13, none⟩ (.int .i64 (Q + 1))) w1.heap.size 32 (innL r wk (P + 1) (Q + 1) (.slice (some ⟨b, 0, none⟩) n c')) := H8.out
  have HAF8 := Lib.hid haf8
  have hb8 : Below w.heap.size w ((w6.setCell ⟨w1.heap.size, 12, none⟩ (.int .i64 (P + 1))).setCell ⟨w1.heap.size, 13, none⟩ (.int .i64 (Q + 1))) := below_set (below_set HB6.out (by omega) _ _) (by omega) _ _
  have HB8 := Lib.hid hb8
  have HO8 := Lib.hid (own_other (own_other HO6.out HN1.out 12 (.int .i64 (P + 1))) HN1.out 13 (.int .i64 (Q + 1)))
  clear haf8 H8 hb8
  go_wp2_with (first
    | (refine wpList_load_row rfl 32 _ rfl w1.heap.size (by rfl) 32 (innL r wk (P + 1) (Q + 1) (.slice (some ⟨b, 0, none⟩) n c')).toArray (0, 0) _ HAF8.out Try.underlying32 rfl inn_info ?_)
    | (refine wpList_storeC rfl _ _ 32 rfl (w.heap.size + 1) 32 zeroL (innL r wk (P + 1) (Q + 1) (.slice (some ⟨b, 0, none⟩) n c')).toArray inn_info (by rfl) (by rfl) HRE8.out rfl (inn_one _ _ _ _ _ _ _) ?_))
  refine ret_cell2 (g := w.heap.size + 1) (xs := innL r wk (P + 1) (Q + 1) (.slice (some ⟨b, 0, none⟩) n c')) rfl rfl rfl (blk_row HRE8.out _) Try.underlying32 rfl inn_info rfl ?_
  rw [show ((P : Int) + 1).toNat - 1 = P by omega, show ((Q : Int) + 1).toNat - 1 = Q by omega]
  exact ⟨_, rfl, own_row HO8.out HN2.out _, row_below HB8.out (by omega) _⟩
end Go.Proofs.Ytjlmlafiojpjmaa
