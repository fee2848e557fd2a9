/-
  Chapter 12: the example of the chapter.
-/
import Derived.Test.YtjlmlafiojpjmaaOpen12
import Derived.Test.YtjlmlafiojpjmaaRanD12
import Derived.Test.YtjlmlafiojpjmaaEnt12
namespace Go.Proofs.Ytjlmlafiojpjmaa
open Go.RowKit
def sts : List Value := [.int .u8 1, .int .u8 1, .int .u8 0, .int .u8 0]
set_option maxRecDepth 100000 in
set_option maxHeartbeats 1000000 in
theorem awake_any (w : World) : Calls Try.prog 6 #[] w fun e w' => e = .returned (.bool true) ∧ Below w.heap.size w w' := by
  go_enter Try.func6, Try.ntmps6
  go_wp2_with fail
  refine (side_f _).mono ?_
  rintro e w2 ⟨g, rfl, hq, hb2⟩
  have hq0 : Lst w2 (.slice (some ⟨g, 0, none⟩) 4 4) (stC [0, 0, 0, 0]) := .inr ⟨g, 0, 4, rfl, by decide, hq.lt, fun j u hu => by rw [Nat.zero_add, hq.cell]; exact hu⟩
  go_wp2_with fail
  refine (open_ok zeroR 0 0 0 1 2 (some ⟨g, 0, none⟩) 4 4 [0, 0, 0, 0] (stC [0, 0, 0, 0]) w2 (by decide) rfl rfl hq0 rfl (by decide) (by decide) (by decide)).mono ?_
  rintro e w3 ⟨B', rfl, hown, hb3⟩
  have hlst0 : ∃ A0 c0, B' = .slice A0 4 c0 ∧ w3.ownsRow w2.heap.size 50 1 (.slice A0 4 c0) 4 sts := by
    have hown2 : w3.ownsRow w2.heap.size 50 1 B' 4 [.int .u8 1, .int .u8 1, .int .u8 0, .int .u8 0] := hown
    obtain ⟨A0, c0, rfl⟩ := own_form hown2
    exact ⟨A0, c0, rfl, hown2⟩
  obtain ⟨A0, c0, rfl, hlst⟩ := hlst0
  clear hown hq hq0
  go_wp2_with (first
    | (guard_target =~ wpList _ _ _ _ _ (World.alloc _ _); refine wpList_storeNew rfl _ _ 32 rfl _ (innL zeroR 0 1 2 (.slice A0 4 c0)).toArray inn_info (by rfl) (by rfl) rfl (inn_one _ _ _ _ _ _ _) ?_; have nb := cur_new w3 (.cells (innL zeroR 0 1 2 (.slice A0 4 c0)).toArray 32); have nn := Blk.new w3 32 (innL zeroR 0 1 2 (.slice A0 4 c0)); generalize w3.alloc (Obj.cells (innL zeroR 0 1 2 (.slice A0 4 c0)).toArray 32) = w4 at nb nn ⊢)
    | (refine wpList_load_row rfl 32 _ rfl w3.heap.size (by rfl) 32 (innL zeroR 0 1 2 (.slice A0 4 c0)).toArray (0, 0) _ nn Try.underlying32 rfl inn_info ?_))
  refine (ran_ok zeroR 0 1 2 1 1 1 0 0 0 0 0 0 false A0 4 c0 sts w4 (by decide) (by decide) rfl (Lst.own (xs := sts) (own_below hlst nb (Nat.le_refl _))) (by decide) 2 1 (by decide)).mono ?_
  rintro e w5 ⟨B1, rfl, hown1, hb5⟩
  obtain ⟨A1, c1, rfl⟩ := own_form hown1
  have hbl := cur_step1 nb hb5
  have hl3 := own_below hlst hbl (Nat.le_refl _)
  have N5 := Lib.hid (nn.to hb5)
  have hB5 := cur_step1 (cur_step1 hb2 hb3) hbl
  have hW3 := (cur_step1 hb2 hb3).size
  have hs35 := N5.out.lt
  clear hlst hown1 nn nb hb5 hb2 hb3 hbl
  go_wp2_with (first
    | (guard_target =~ wpList _ _ _ _ _ (World.alloc _ _); refine wpList_storeNew rfl _ _ 32 rfl _ (innL zeroR 0 2 1 (.slice A1 4 c1)).toArray inn_info (by rfl) (by rfl) rfl (inn_one _ _ _ _ _ _ _) ?_; have ob := cur_new w5 (.cells (innL zeroR 0 2 1 (.slice A1 4 c1)).toArray 32); have on := Blk.new w5 32 (innL zeroR 0 2 1 (.slice A1 4 c1)); generalize w5.alloc (Obj.cells (innL zeroR 0 2 1 (.slice A1 4 c1)).toArray 32) = w6 at ob on ⊢; have N6 := Lib.hid (N5.out.to ob); clear N5)
    | (refine wpList_load_row rfl 32 _ rfl w3.heap.size (by rfl) 32 (innL zeroR 0 1 2 (.slice A0 4 c0)).toArray (0, 0) _ N6.out Try.underlying32 rfl inn_info ?_))
  refine (ran_out zeroR 2 1 1 0 0 3 0 0 false A0 4 c0 sts w6 (by decide) (by decide) (by decide) rfl (Lst.own (xs := sts) (own_below hl3 ob (Nat.le_refl _)))).mono ?_
  rintro e w7 ⟨B2, rfl, hown2, hb7⟩
  obtain ⟨A2, c2, rfl⟩ := own_form hown2
  have hrg := own_range hown2
  have N7 := Lib.hid (N6.out.to hb7)
  have O7 := Lib.hid (on.to hb7)
  have hB7 := cur_step1 (cur_step1 hB5 ob) hb7
  have hs6 := N6.out.lt
  clear hl3 on ob hb7 hB5 N6
  go_wp2_with (first
    | (guard_target =~ wpList _ _ _ _ _ (World.alloc _ _); refine wpList_storeNew rfl _ _ 32 rfl _ (innL zeroR 1 0 2 (.slice A2 4 c2)).toArray inn_info (by rfl) (by rfl) rfl (inn_one _ _ _ _ _ _ _) ?_; have ub := cur_new w7 (.cells (innL zeroR 1 0 2 (.slice A2 4 c2)).toArray 32); have un := Blk.new w7 32 (innL zeroR 1 0 2 (.slice A2 4 c2)); generalize w7.alloc (Obj.cells (innL zeroR 1 0 2 (.slice A2 4 c2)).toArray 32) = w8 at ub un ⊢)
    | (refine wpList_load_row rfl 32 _ rfl w7.heap.size (by rfl) 32 (innL zeroR 1 0 2 (.slice A2 4 c2)).toArray (0, 0) _ un Try.underlying32 rfl inn_info ?_))
  have hst2 : stC [2, 1, 0, 0] = sts.set 0 (.int .u8 2) := rfl
  have hl8 := own_below hown2 ub (Nat.le_refl _)
  refine (enter_ok zeroR 1 2 2 A2 4 c2 [2, 1, 0, 0] (sts.set 0 (.int .u8 2)) w8 (by decide) hst2 rfl (Lst.own (xs := sts.set 0 (.int .u8 2)) hl8) rfl rfl).mono ?_
  rintro e w9 ⟨B3, rfl, hown3, hb9⟩
  obtain ⟨A3, c3, rfl⟩ := own_form hown3
  have N9 := Lib.hid ((N7.out.to ub).to hb9)
  have O9 := (O7.out.to ub).to hb9
  have U9 := Lib.hid (un.to hb9)
  have hB9 := cur_step1 (cur_step1 hB7 ub) hb9
  have hl9 := own_below hl8 hb9 (Nat.le_refl _)
  have hs3 := N7.out.lt
  have hs5 := O7.out.lt
  have hw3 : w.heap.size ≤ w3.heap.size := hW3
  have n35 : w5.heap.size ≠ w3.heap.size := by omega
  have n37 : w7.heap.size ≠ w3.heap.size := by omega
  have hW : Blk (w9.setRow w3.heap.size (innL zeroR 1 3 2 (.slice A3 4 c3)).toArray) w3.heap.size 32 (innL zeroR 1 3 2 (.slice A3 4 c3)) := by simpa using blk_row N9.out (innL zeroR 1 3 2 (.slice A3 4 c3)).toArray
  have hO := O9.row_other n35 (innL zeroR 1 3 2 (.slice A3 4 c3)).toArray
  have hU := U9.out.row_other n37 (innL zeroR 1 3 2 (.slice A3 4 c3)).toArray
  have hB := row_below hB9 hw3 (innL zeroR 1 3 2 (.slice A3 4 c3)).toArray
  have hL := own_row hl9 (fun k hk => (by have := hrg k hk; omega : k ≠ w3.heap.size)) (innL zeroR 1 3 2 (.slice A3 4 c3)).toArray
  go_wp2_with (first
    | (refine wpList_storeC rfl _ _ 32 rfl w3.heap.size 32 (innL zeroR 0 1 2 (.slice A0 4 c0)) (innL zeroR 1 3 2 (.slice A3 4 c3)).toArray inn_info (by rfl) (by rfl) N9.out rfl (inn_one _ _ _ _ _ _ _) ?_; clear N9 U9 O9 hB9 hl9 hl8 hrg hown2 hown3 N7 O7; generalize w9.setRow w3.heap.size (innL zeroR 1 3 2 (.slice A3 4 c3)).toArray = w10 at hW hO hU hB hL ⊢; have d1 : w10.cell? ⟨w5.heap.size, 12, none⟩ = some (.int .i64 2) := hO.cell 12; have d2 : w10.cell? ⟨w7.heap.size, 12, none⟩ = some (.int .i64 0) := hU.cell 12; have d3 : w10.cell? ⟨w7.heap.size, 13, none⟩ = some (.int .i64 2) := hU.cell 13; have d4 : w10.cell? ⟨w7.heap.size, 4, none⟩ = some (.int .i64 1) := hU.cell 4; have HU := Lib.hid hU; have HW := Lib.hid hW; have HB := Lib.hid hB; have HL := Lib.hid hL; clear hU hW hB hL hO)
    | (refine wpList_load_g (by rfl) 32 _ rfl w7.heap.size (by rfl) 32 (innL zeroR 1 0 2 (.slice A2 4 c2)).toArray (0, 0) _ HU.out Try.underlying32 rfl inn_info ?_))
  refine (vacant_f zeroR 1 0 2 (.slice A2 4 c2) [2, 1, 0, 0] true w10 (by decide) (Lst.own (xs := sts.set 0 (.int .u8 2)) HL.out) rfl).mono ?_
  rintro e w11 ⟨rfl, hb11⟩
  have c12 : w11.cell? ⟨w3.heap.size, 12, none⟩ = some (.int .i64 3) := (HW.out.to hb11).cell 12
  go_wp2_with fail
  all_goals
    go_ret
    exact ⟨rfl, cur_step1 HB.out hb11⟩
end Go.Proofs.Ytjlmlafiojpjmaa
