/-
  Chapter 54: cmp.Or, the order of entries.
-/
import Derived.Test.YtpninpohligomaaGreatDoorLeaf54
import Derived.Test.YtpninpohligomaaGreatDoorBlk
import Derived.Deep.RegionHeld3
set_option linter.unusedSimpArgs false
set_option linter.unusedVariables false
namespace Go.Proofs.YtpninpohligomaaGreatDoor
open Go.RowKit
set_option maxRecDepth 100000
set_option maxHeartbeats 1000000
theorem entry2 (w : World) (c1 c2 : List Value) (e1 e2 : TypeId) : Blk ((w.alloc (.cells c1.toArray e1)).alloc (.cells c2.toArray e2)) w.heap.size e1 c1 ∧ Blk ((w.alloc (.cells c1.toArray e1)).alloc (.cells c2.toArray e2)) (w.heap.size + 1) e2 c2 ∧ Below w.heap.size w ((w.alloc (.cells c1.toArray e1)).alloc (.cells c2.toArray e2)) :=
  ⟨(Blk.new w e1 c1).to (cur_new _ _), two_new w _ _, cur_two w _ _⟩
theorem or_f (x y r : Int) (g : Nat) (w : World) (h0 : w.cell? ⟨g, 0, none⟩ = some (.int .i64 x)) (h1 : w.cell? ⟨g, 1, none⟩ = some (.int .i64 y)) (hr : (if x = 0 then y else x) = r) :
    Calls Tryz.prog 49 #[.slice (some ⟨g, 0, none⟩) 2 2] w fun e w' => e = .returned (.int .i64 r) ∧ w = w' := by
  have HR := Lib.hid hr
  clear hr
  go_enter Tryz.func49, Tryz.ntmps49
  go_wp2
  go_loopw [8] (fun i wr => ∃ k : Nat, k ≤ 2 ∧ i = .int .i64 k ∧ (1 ≤ k → x = 0) ∧ (2 ≤ k → y = 0) ∧ wr = w) (fun i _ => 2 - (intOf i).toNat)
  case atStart => exact ⟨0, by omega, rfl, by omega, by omega, rfl⟩
  case round =>
    obtain ⟨k, hk, rfl, hx, hy, rfl⟩ := hrel
    match k, hk with
    | 0, _ =>
      by_cases hx0 : x = 0
      · go_wp2
        go_roundw
        case rel => exact ⟨1, by omega, rfl, fun _ => hx0, by omega, trivial⟩
        case measure => simp [intOf]
      · go_wp2
        go_ret
        exact ⟨ret_int (by rw [← HR.out, if_neg hx0]), rfl⟩
    | 1, _ =>
      have hx0 := hx (by omega)
      by_cases hy0 : y = 0
      · go_wp2
        go_roundw
        case rel => exact ⟨2, by omega, rfl, fun _ => hx0, fun _ => hy0, trivial⟩
        case measure => simp [intOf]
      · go_wp2
        go_ret
        exact ⟨ret_int (by rw [← HR.out, if_pos hx0]), rfl⟩
    | 2, _ =>
      have hx0 := hx (by omega)
      have hy0 := hy (by omega)
      go_wp2
      go_ret
      exact ⟨ret_int (by rw [← HR.out, if_pos hx0, hy0]), rfl⟩
theorem order_f (a b : Tr) (r : Int) (w : World) (hr : (if cmpI a.d b.d = 0 then cmpS a.p b.p else cmpI a.d b.d) = r) :
    Calls Tryz.prog 64 #[.agg (trE a).toArray, .agg (trE b).toArray] w fun e w' => e = .returned (.int .i64 r) ∧ Below w.heap.size w w' := by
  have HR := Lib.hid hr
  clear hr
  go_enter Tryz.func64, Tryz.ntmps64
  go_wp2
  obtain ⟨ha, hb, hb0⟩ := entry2 w (trE a) (trE b) 51 51
  generalize (w.alloc (Obj.cells (trE a).toArray 51)).alloc (Obj.cells (trE b).toArray 51) = w0 at ha hb hb0 ⊢
  have a0 : w0.cell? ⟨w.heap.size, 0, none⟩ = some (.string a.p) := ha.cell 0
  have a2 : w0.cell? ⟨w.heap.size, 2, none⟩ = some (.int .i64 a.d) := ha.cell 2
  have b0 : w0.cell? ⟨w.heap.size + 1, 0, none⟩ = some (.string b.p) := hb.cell 0
  have b2 : w0.cell? ⟨w.heap.size + 1, 2, none⟩ = some (.int .i64 b.d) := hb.cell 2
  have l1 := ha.lt
  have l2 := hb.lt
  have HB0 := Lib.hid hb0
  have Q0 := Lib.hid (show (w0.alloc (.cells #[.int .i64 (cmpI a.d b.d), .int .i64 (cmpS a.p b.p)] 3)).drew.cell? ⟨w0.heap.size, 0, none⟩ = some (.int .i64 (cmpI a.d b.d)) by simp)
  have Q1 := Lib.hid (show (w0.alloc (.cells #[.int .i64 (cmpI a.d b.d), .int .i64 (cmpS a.p b.p)] 3)).drew.cell? ⟨w0.heap.size, 1, none⟩ = some (.int .i64 (cmpS a.p b.p)) by simp)
  clear ha hb hb0
  go_region_held3 (fun w' => w'.cell? ⟨w.heap.size, 0, none⟩ = some (.string a.p) ∧ w'.cell? ⟨w.heap.size, 2, none⟩ = some (.int .i64 a.d) ∧ w'.cell? ⟨w.heap.size + 1, 0, none⟩ = some (.string b.p) ∧ w'.cell? ⟨w.heap.size + 1, 2, none⟩ = some (.int .i64 b.d))
    (first
      | (go_keep; done)
      | (go_split_ands; refine ⟨?_, ?_, ?_, ?_⟩ <;> (rw [World.cell?_alloc_lt _ _ _ (by assumption)]; assumption))
      | (go_split_ands; refine ⟨?_, ?_, ?_, ?_⟩ <;> assumption))
    ((first
      | (go_at_call 50; refine (comp_i _ _ _).mono ?_; rintro e w1 ⟨rfl, rfl⟩)
      | (go_at_call 86; refine (comp_s _ _ _).mono ?_; rintro e w1 ⟨rfl, rfl⟩)
      | (go_at_call 49; refine (or_f (cmpI a.d b.d) (cmpS a.p b.p) r w0.heap.size _ Q0.out Q1.out HR.out).mono ?_; rintro e w1 ⟨rfl, rfl⟩)))
  go_wp2_with fail
  go_ret
  exact ⟨rfl, (cur_step1 HB0.out (cur_new w0 _)).drew⟩
/-- Not before: what both tests of the order say. -/
theorem ord_prog (a b : Tr) : decide (0 ≤ (if cmpI a.d b.d = 0 then cmpS a.p b.p else cmpI a.d b.d)) = badO a b := by
  unfold badO cmpI cmpS
  by_cases h1 : a.d < b.d
  · have e1 : decide (b.d < a.d) = false := decide_eq_false (by omega)
    have e2 : decide (b.d = a.d) = false := decide_eq_false (by omega)
    simp [h1, e1, e2]
  · by_cases h2 : b.d < a.d
    · simp [h1, h2]
    · have e2 : decide (b.d = a.d) = true := decide_eq_true (by omega)
      simp only [h1, h2, e2]
      cases h3 : slt a.p b.p
      · cases h4 : seq a.p b.p <;> simp
      · simp
theorem ord_ref (a b : Tr) : (decide (b.d < a.d) || (decide (b.d = a.d) && (Op.bytesLess b.p.toList a.p.toList || b.p.toList == a.p.toList))) = badO a b := by
  unfold badO
  rw [leq_eq, ← slt_to]
end Go.Proofs.YtpninpohligomaaGreatDoor
