/-
  Chapter 12: Vacant; the side of the law.
-/
import Derived.Test.YtjlmlafiojpjmaaBeg12
namespace Go.Proofs.Ytjlmlafiojpjmaa
open Go.RowKit

theorem side_f (w : World) : Calls Try.prog 8 #[] w fun e w' => ∃ g, e = .returned (innV zeroR 0 0 0 (.slice (some ⟨g, 0, none⟩) 4 4)) ∧ Blk w' g 50 (stC [0, 0, 0, 0]) ∧ Below w.heap.size w w' := by
  go_enter Try.func8, Try.ntmps8
  go_wp2_with (first
    | (refine wpList_makeN _ rfl _ _ _ rfl 50 (.int .u8 0) 1 (by kernel_rfl) (by kernel_rfl) (by kernel_rfl) .i64 .i64 4 (by rfl) (by rfl) (by omega) (by unfold maxLen; omega) ?_; intro w1 hq hb; have hz := Blk.to (Blk.new w 32 zeroL) hb; have hb0 := cur_step0 hb; clear hb)
    | (refine wpList_storeC rfl _ _ 32 rfl w.heap.size 32 zeroL (innL zeroR 0 0 0 (.slice (some ⟨w.heap.size + 1, 0, none⟩) 4 4)).toArray inn_info (by rfl) (by rfl) hz rfl (inn_one _ _ _ _ _ _ _) ?_))
  refine ret_cell (g := w.heap.size) (xs := innL zeroR 0 0 0 (.slice (some ⟨w.heap.size + 1, 0, none⟩) 4 4)) rfl rfl (blk_row hz _) Try.underlying32 rfl inn_info rfl ?_
  have hq' : Blk w1 (w.heap.size + 1) 50 (stC [0, 0, 0, 0]) := by
    have h := hq
    simp only [World.size_alloc] at h
    exact h
  exact ⟨_, rfl, Blk.row_other hq' (by omega) _, row_below hb0 (Nat.le_refl _) _⟩
set_option maxRecDepth 100000 in
set_option maxHeartbeats 1000000 in
theorem vacant_f (r : Rst) (wk st ot : Int) (B : Value) (bs : List Int) (q : Bool) (w : World) (hl : bs.length ≤ 1000000) (hr : Lst w B (stC bs)) (hq : (begunL bs && (st == 0 || ot == 0)) = q) :
    Calls Try.prog 18 #[innV r wk st ot B] w fun e w' => e = .returned (.bool q) ∧ Below w.heap.size w w' := by
  have HQ := Lib.hid hq
  clear hq
  cases hbg : begunL bs
  · have HB := Lib.hid hbg
    clear hbg
    go_enter Try.func18, Try.ntmps18
    go_wp2_with (first
      | (refine wpList_load_row rfl 32 _ rfl w.heap.size (by rfl) 32 (innL r wk st ot B).toArray (0, 0) _ (Blk.new w _ _) Try.underlying32 rfl inn_info ?_)
      | (go_at_call 22; refine (begun_f r wk st ot B bs _ _ hl (hr.to (cur_new w _)) HB.out).mono ?_; rintro e w1 ⟨rfl, hb1⟩))
    go_ret
    exact ⟨ret_bool (by rw [← HQ.out, HB.out]; rfl), cur_step0 hb1⟩
  · have HB := Lib.hid hbg
    clear hbg
    cases hst : (st == 0)
    all_goals
      have HS := Lib.hid hst
      go_enter Try.func18, Try.ntmps18
      go_wp2_with (first
        | (refine wpList_load_row rfl 32 _ rfl w.heap.size (by rfl) 32 (innL r wk st ot B).toArray (0, 0) _ (Blk.new w _ _) Try.underlying32 rfl inn_info ?_)
        | (go_at_call 22; refine (begun_f r wk st ot B bs _ _ hl (hr.to (cur_new w _)) HB.out).mono ?_; rintro e w1 ⟨rfl, hb1⟩; have hin := (Blk.new w 32 (innL r wk st ot B)).to hb1; have c12 : w1.cell? ⟨w.heap.size, 12, none⟩ = some (.int .i64 st) := hin.cell 12; have c13 : w1.cell? ⟨w.heap.size, 13, none⟩ = some (.int .i64 ot) := hin.cell 13; clear hin))
      all_goals
        go_ret
        exact ⟨ret_bool (by rw [← HQ.out, HB.out, HS.out]; simp), cur_step0 hb1⟩
end Go.Proofs.Ytjlmlafiojpjmaa
