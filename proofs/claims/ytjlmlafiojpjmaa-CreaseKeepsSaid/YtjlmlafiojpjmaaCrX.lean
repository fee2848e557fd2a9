/-
  Chapter 12: the side of the law, the example of the chapter, with the calls of any lists.
-/
import Derived.Test.YtjlmlafiojpjmaaCrA
set_option linter.unusedSimpArgs false
set_option linter.unusedVariables false
namespace Go.Proofs.Ytjlmlafiojpjmaa
open Go.RowKit
set_option maxRecDepth 100000
set_option maxHeartbeats 4000000
def sideV (g n : Nat) : Ls := ⟨.slice (some ⟨g, 0, none⟩) n n, .slice none 0 0, .slice none 0 0, .slice none 0 0, .slice none 0 0⟩
def newI (n : Nat) : Inn := ⟨zeroR, 0, 0, 0, List.replicate n 0, [], [], [], []⟩
theorem sideR {w : World} {g n : Nat} (hq : Blk w g 50 (stC (List.replicate n 0))) : InnR w (sideV g n) (newI n) := by
  refine ⟨.inr (.inl ⟨g, 0, n, ?_, ?_, hq.lt, fun j u hu => by rw [Nat.zero_add, hq.cell]; exact hu⟩), .inl ⟨rfl, rfl⟩, .inl ⟨rfl, rfl⟩, .inl ⟨rfl, rfl⟩, .inl ⟨rfl, rfl⟩⟩
  · show Value.slice _ n n = .slice _ (stC (List.replicate n 0)).length n
    rw [stC_len, List.length_replicate]
  · show (stC (List.replicate n 0)).length ≤ n
    rw [stC_len, List.length_replicate]; exact Nat.le_refl _
theorem sideO {V : Ls} (h1 : V.One) : V.One := h1
theorem sideOne (g n : Nat) : (sideV g n).One := ⟨rfl, rfl, rfl, rfl, rfl⟩
theorem side_f (w : World) : Calls Try.prog 8 #[] w fun e w' => ∃ g, e = .returned (.agg ((newI 4).cells (sideV g 4)).toArray) ∧ Blk w' g 50 (stC (List.replicate 4 0)) ∧ Below w.heap.size w w' := by
  go_enter Try.func8, Try.ntmps8
  go_wp2_with (first
    | (refine wpList_makeN _ rfl _ _ _ rfl 50 (.int .u8 0) 1 (by kernel_rfl) (by kernel_rfl) (by kernel_rfl) .i64 .i64 4 (by rfl) (by rfl) (by omega) (by unfold maxLen; omega) ?_; intro w1 hq hb; have hz := Blk.to (Blk.new w 32 zeroL) hb; have hb0 := cur_step0 hb; clear hb)
    | (refine wpList_storeC rfl _ _ 32 rfl w.heap.size 32 zeroL ((newI 4).cells (sideV (w.heap.size + 1) 4)).toArray inn_info (by rfl) (by rfl) hz rfl (Inn.one _ (sideOne _ _)) ?_))
  refine ret_cell (g := w.heap.size) (xs := (newI 4).cells (sideV (w.heap.size + 1) 4)) rfl rfl (blk_row hz _) Try.underlying32 rfl inn_info rfl ?_
  have hq' : Blk w1 (w.heap.size + 1) 50 (stC (List.replicate 4 0)) := by
    have h := hq
    simp only [World.size_alloc] at h
    exact h
  exact ⟨_, rfl, Blk.row_other hq' (by omega) _, row_below hb0 (Nat.le_refl _) _⟩
def sI (wk st ot : Int) (b : List Int) : Inn := ⟨zeroR, wk, st, ot, b, [], [], [], []⟩
theorem sI_few {wk st ot : Int} {b : List Int} (h : b.length ≤ 1000) : (sI wk st ot b).Few := ⟨h, by simp [sI], by simp [sI], by simp [sI], by simp [sI]⟩
def ball1 : Dl := ⟨1, 1, 1, 0, 0, false, 0, 0, 0, 0, false, 0⟩
def ball2 : Dl := ⟨1, 1, 1, 0, 0, true, 6, 1, 3, 0, false, 0⟩
theorem aw1 : openS (newI 4) 1 2 = (sI 0 1 2 [1, 1, 0, 0], 0) := rfl
theorem aw2 : ranS (sI 0 1 2 [1, 1, 0, 0]) ball1 = sI 0 2 1 [1, 1, 0, 0] := rfl
theorem aw3 : ranS (sI 0 1 2 [1, 1, 0, 0]) ball2 = sI 1 0 2 [2, 1, 0, 0] := by
  have h : wrap64 (0 + 1) = 1 := by decide +kernel
  show Inn.mk zeroR (wrap64 (0 + 1)) 0 2 [2, 1, 0, 0] [] [] [] [] = _
  rw [h]
  rfl
theorem aw4 : enterS (sI 1 0 2 [2, 1, 0, 0]) 3 = (sI 1 3 2 [2, 1, 1, 0], 0) := rfl
theorem awake_any (w : World) : Calls Try.prog 6 #[] w fun e w' => e = .returned (.bool true) ∧ Below w.heap.size w w' := by
  go_enter Try.func6, Try.ntmps6
  go_wp2_with fail
  refine (side_f _).mono ?_
  rintro e w2 ⟨g, rfl, hq, hb2⟩
  have HR2 := Lib.hid (sideR (n := 4) hq)
  have HB2 := Lib.hid hb2
  clear hq hb2
  go_wp2_with fail
  have hc := open_p (newI 4) (sideV g 4) 1 2 w2 ⟨by decide, by decide, by decide, by decide, by decide⟩ HR2.out
  rw [aw1] at hc
  refine hc.mono ?_
  clear hc
  rintro e w3 ⟨U1, rfl, ho1, hb3⟩
  obtain ⟨w4, hw4⟩ : ∃ y, w3.alloc (.cells ((sI 0 1 2 [1, 1, 0, 0]).cells U1).toArray 32) = y := ⟨_, rfl⟩
  have S4 := Lib.hid hw4
  have hb4 := cur_new w3 (.cells ((sI 0 1 2 [1, 1, 0, 0]).cells U1).toArray 32)
  have hn4 := Blk.new w3 32 ((sI 0 1 2 [1, 1, 0, 0]).cells U1)
  rw [hw4] at hb4 hn4
  have HR4 := Lib.hid (ho1.rd.to hb4)
  have l03 : w.heap.size ≤ w3.heap.size := (cur_step1 HB2.out hb3).size
  have HO1 := Lib.hid ho1.ones
  have HN4 := Lib.hid hn4
  have HB4 := Lib.hid (cur_step1 (cur_step1 HB2.out hb3) hb4)
  clear ho1 hb3 hb4 hn4 hw4
  go_wp2_with (first
    | (refine wpList_storeNew rfl _ _ 32 rfl _ ((sI 0 1 2 [1, 1, 0, 0]).cells U1).toArray inn_info (by rfl) (by rfl) rfl (Inn.one _ HO1.out) ?_; rw [S4.out])
    | (refine wpList_load_row rfl 32 _ rfl w3.heap.size (by rfl) 32 ((sI 0 1 2 [1, 1, 0, 0]).cells U1).toArray (0, 0) _ HN4.out Try.underlying32 rfl inn_info ?_))
  have hc := ran_p (sI 0 1 2 [1, 1, 0, 0]) U1 ball1 w4 (sI_few (by decide)) HR4.out
  rw [aw2] at hc
  refine hc.mono ?_
  clear hc
  rintro e w5 ⟨U2, rfl, ho2, hb5⟩
  obtain ⟨w6, hw6⟩ : ∃ y, w5.alloc (.cells ((sI 0 2 1 [1, 1, 0, 0]).cells U2).toArray 32) = y := ⟨_, rfl⟩
  have S6 := Lib.hid hw6
  have hb6 := cur_new w5 (.cells ((sI 0 2 1 [1, 1, 0, 0]).cells U2).toArray 32)
  have hn6 := Blk.new w5 32 ((sI 0 2 1 [1, 1, 0, 0]).cells U2)
  rw [hw6] at hb6 hn6
  have HO2 := Lib.hid ho2.ones
  have HN6 := Lib.hid hn6
  have l35 : w3.heap.size < w5.heap.size := Nat.lt_of_lt_of_le HN4.out.lt hb5.size
  have HP6 := Lib.hid ((HN4.out.to hb5).to hb6)
  have HR6 := Lib.hid ((HR4.out.to hb5).to hb6)
  have HB6 := Lib.hid (cur_step1 (cur_step1 HB4.out hb5) hb6)
  clear ho2 hb5 hb6 hn6 hw6
  go_wp2_with (first
    | (refine wpList_storeNew rfl _ _ 32 rfl _ ((sI 0 2 1 [1, 1, 0, 0]).cells U2).toArray inn_info (by rfl) (by rfl) rfl (Inn.one _ HO2.out) ?_; rw [S6.out])
    | (refine wpList_load_row rfl 32 _ rfl w3.heap.size (by rfl) 32 ((sI 0 1 2 [1, 1, 0, 0]).cells U1).toArray (0, 0) _ HP6.out Try.underlying32 rfl inn_info ?_))
  have hc := ran_p (sI 0 1 2 [1, 1, 0, 0]) U1 ball2 w6 (sI_few (by decide)) HR6.out
  rw [aw3] at hc
  refine hc.mono ?_
  clear hc
  rintro e w7 ⟨U3, rfl, ho3, hb7⟩
  obtain ⟨w8, hw8⟩ : ∃ y, w7.alloc (.cells ((sI 1 0 2 [2, 1, 0, 0]).cells U3).toArray 32) = y := ⟨_, rfl⟩
  have S8 := Lib.hid hw8
  have hb8 := cur_new w7 (.cells ((sI 1 0 2 [2, 1, 0, 0]).cells U3).toArray 32)
  have hn8 := Blk.new w7 32 ((sI 1 0 2 [2, 1, 0, 0]).cells U3)
  rw [hw8] at hb8 hn8
  have HO3 := Lib.hid ho3.ones
  have HR8 := Lib.hid (ho3.rd.to hb8)
  have HQ8 := Lib.hid (ho3.to hb8)
  have l36 : w3.heap.size < w6.heap.size := HP6.out.lt
  have HN8 := Lib.hid hn8
  have l57 : w5.heap.size < w7.heap.size := Nat.lt_of_lt_of_le HN6.out.lt hb7.size
  have HM8 := Lib.hid ((HN6.out.to hb7).to hb8)
  have HP8 := Lib.hid ((HP6.out.to hb7).to hb8)
  have HB8 := Lib.hid (cur_step1 (cur_step1 HB6.out hb7) hb8)
  clear ho3 hb7 hb8 hn8 hw8
  go_wp2_with (first
    | (refine wpList_storeNew rfl _ _ 32 rfl _ ((sI 1 0 2 [2, 1, 0, 0]).cells U3).toArray inn_info (by rfl) (by rfl) rfl (Inn.one _ HO3.out) ?_; rw [S8.out])
    | (refine wpList_load_row rfl 32 _ rfl w7.heap.size (by rfl) 32 ((sI 1 0 2 [2, 1, 0, 0]).cells U3).toArray (0, 0) _ HN8.out Try.underlying32 rfl inn_info ?_))
  have hc := enter_p (sI 1 0 2 [2, 1, 0, 0]) U3 3 w8 (sI_few (by decide)) HR8.out
  rw [aw4] at hc
  refine hc.mono ?_
  clear hc
  rintro e w9 ⟨U4, rfl, ho4, hb9⟩
  have HO4 := Lib.hid ho4.ones
  have HN9 := Lib.hid (HN8.out.to hb9)
  have HM9 := Lib.hid (HM8.out.to hb9)
  have HP9 := Lib.hid (HP8.out.to hb9)
  have HQ9 := Lib.hid (HQ8.out.to hb9)
  have HB9 := Lib.hid (cur_step1 HB8.out hb9)
  clear ho4 hb9
  go_upto_region 5 with (refine wpList_storeC rfl _ _ 32 rfl w3.heap.size 32 ((sI 0 1 2 [1, 1, 0, 0]).cells U1) ((sI 1 3 2 [2, 1, 1, 0]).cells U4).toArray inn_info (by rfl) (by rfl) HP9.out rfl (Inn.one _ HO4.out) ?_)
  have HM10 := Lib.hid (HM9.out.row_other (g' := w3.heap.size) (by omega) ((sI 1 3 2 [2, 1, 1, 0]).cells U4).toArray)
  have HN10 := Lib.hid (HN9.out.row_other (g' := w3.heap.size) (by omega) ((sI 1 3 2 [2, 1, 1, 0]).cells U4).toArray)
  have HP10 := Lib.hid (show Blk (w9.setRow w3.heap.size ((sI 1 3 2 [2, 1, 1, 0]).cells U4).toArray) w3.heap.size 32 ((sI 1 3 2 [2, 1, 1, 0]).cells U4) from blk_row HP9.out _)
  have HB10 := Lib.hid (show Below w.heap.size w (w9.setRow w3.heap.size ((sI 1 3 2 [2, 1, 1, 0]).cells U4).toArray) from row_below HB9.out l03 _)
  have HR10 := Lib.hid ((HQ9.out.row (HQ9.out.away (g := w3.heap.size) (.inl l36)) ((sI 1 3 2 [2, 1, 1, 0]).cells U4).toArray).rd)
  generalize w9.setRow w3.heap.size ((sI 1 3 2 [2, 1, 1, 0]).cells U4).toArray = wa at HM10 HN10 HP10 HB10 HR10 ⊢
  have d1 : wa.cell? ⟨w5.heap.size, 12, none⟩ = some (.int .i64 2) := HM10.out.cell 12
  have d2 : wa.cell? ⟨w7.heap.size, 12, none⟩ = some (.int .i64 0) := HN10.out.cell 12
  have d3 : wa.cell? ⟨w7.heap.size, 13, none⟩ = some (.int .i64 2) := HN10.out.cell 13
  have d4 : wa.cell? ⟨w7.heap.size, 4, none⟩ = some (.int .i64 1) := HN10.out.cell 4
  go_wp2_with (first
    | (refine wpList_load_row rfl 32 _ rfl w7.heap.size (by rfl) 32 ((sI 1 0 2 [2, 1, 0, 0]).cells U3).toArray (0, 0) _ HN10.out Try.underlying32 rfl inn_info ?_)
    | (refine wpList_load_g (by rfl) 32 _ rfl w7.heap.size (by rfl) 32 ((sI 1 0 2 [2, 1, 0, 0]).cells U3).toArray (0, 0) _ HN10.out Try.underlying32 rfl inn_info ?_))
  refine (vacant_f (sI 1 0 2 [2, 1, 0, 0]) U3 true wa (sI_few (by decide)) HR10.out rfl).mono ?_
  rintro e wb ⟨rfl, hbb⟩
  have e1 : wb.cell? ⟨w3.heap.size, 12, none⟩ = some (.int .i64 3) := (HP10.out.to hbb).cell 12
  have HBB := Lib.hid (cur_step1 HB10.out hbb)
  clear hbb
  go_wp2_with fail
  go_ret
  exact ⟨rfl, HBB.out⟩
end Go.Proofs.Ytjlmlafiojpjmaa
