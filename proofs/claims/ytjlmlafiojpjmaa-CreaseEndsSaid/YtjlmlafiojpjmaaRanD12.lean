/-
  Chapter 12: Ran of the dismissal of the example.
-/
import Derived.Test.YtjlmlafiojpjmaaRan12
import Derived.Test.YtjlmlafiojpjmaaDis12
namespace Go.Proofs.Ytjlmlafiojpjmaa
open Go.RowKit

theorem dis_blk {w w' : World} {g x : Nat} {v : Value} {e : TypeId} {xs : List Value} (h : Dis w w' g v) (hb : Blk w x e xs) (h1 : x ≠ g) (h2 : ∀ k, v.ownBlock = some k → k ≠ x) : Blk w' x e xs := by
  unfold Blk
  rw [h.keep x hb.lt h1 (fun e => h2 x e rfl)]
  exact hb
set_option maxRecDepth 100000 in
set_option maxHeartbeats 1000000 in
theorem ran_out (r : Rst) (ot a1 a2 a3 a4 a5 a6 a8 : Int) (a7 : Bool) (A : Option Addr) (n c : Nat) (xs : List Value) (w : World) (hl : n ≤ 1000000) (hn1 : 1 ≤ n) (h1 : ∀ u ∈ xs, u.oneCell' = true) (hxl : xs.length = n) (hr : Lst w (.slice A n c) xs) :
    Calls Try.prog 9 #[innV r 0 1 ot (.slice A n c), .agg #[.int .u8 a1, .int .u8 a2, .int .i64 1, .int .i64 a3, .int .i64 a4, .bool true, .int .u8 6, .int .i64 1, .int .i64 a5, .int .i64 a6, .bool a7, .int .i64 a8]] w fun e w' => ∃ B', e = .returned (innV r 1 0 ot B') ∧ w'.ownsRow w.heap.size 50 1 B' n (xs.set 0 (.int .u8 2)) ∧ Below w.heap.size w w' := by
  have HXL := Lib.hid hxl
  have HR := Lib.hid hr
  have H1 := Lib.hid h1
  clear hxl hr h1
  go_enter Try.func9, Try.ntmps9
  go_wp2_with (first
    | (refine wpList_load_row rfl 32 _ rfl w.heap.size (by rfl) 32 (innL r 0 1 ot (.slice A n c)).toArray (0, 0) _ (((Blk.new w _ _).to (cur_new _ _)).to (cur_new _ _)) Try.underlying32 rfl inn_info ?_))
  obtain ⟨hin, hd, hre, hb0⟩ := entry3 w (innL r 0 1 ot (.slice A n c)) [.int .u8 a1, .int .u8 a2, .int .i64 1, .int .i64 a3, .int .i64 a4, .bool true, .int .u8 6, .int .i64 1, .int .i64 a5, .int .i64 a6, .bool a7, .int .i64 a8] [.int .i64 0, .int .i64 0, .int .i64 0, .int .i64 0, .int .i64 0, .int .i64 0, .int .i64 0, .int .i64 0, .int .i64 0, .int .i64 0, .int .i64 0, .int .i64 0, .int .i64 0, .int .i64 0, .slice none 0 0, .int .i64 0, .slice none 0 0, .slice none 0 0, .bool false, .slice none 0 0, .bool false, .int .i64 0, .int .i64 0, .int .i64 0, .slice none 0 0, .int .i64 0, .int .i64 0, .int .u8 0] 32 42 32
  generalize ((w.alloc (Obj.cells (innL r 0 1 ot (.slice A n c)).toArray 32)).alloc (Obj.cells [.int .u8 a1, .int .u8 a2, .int .i64 1, .int .i64 a3, .int .i64 a4, .bool true, .int .u8 6, .int .i64 1, .int .i64 a5, .int .i64 a6, .bool a7, .int .i64 a8].toArray 42)).alloc (Obj.cells [.int .i64 0, .int .i64 0, .int .i64 0, .int .i64 0, .int .i64 0, .int .i64 0, .int .i64 0, .int .i64 0, .int .i64 0, .int .i64 0, .int .i64 0, .int .i64 0, .int .i64 0, .int .i64 0, .slice none 0 0, .int .i64 0, .slice none 0 0, .slice none 0 0, .bool false, .slice none 0 0, .bool false, .int .i64 0, .int .i64 0, .int .i64 0, .slice none 0 0, .int .i64 0, .int .i64 0, .int .u8 0].toArray 32) = w0 at hin hd hre hb0 ⊢
  refine (own_f r 0 1 ot (.slice A n c) xs w0 (by have := HXL.out; omega) (HR.out.to hb0) H1.out).mono ?_
  rintro e w1 ⟨B', rfl, hown, hb1⟩
  have hb00 := hb0.size
  have HW0 : w.heap.size + 1 + 1 < w0.heap.size := hre.lt
  have hdd := hd.to hb1
  have hii := hin.to hb1
  have HRE := Lib.hid (hre.to hb1)
  have HB1 := Lib.hid (cur_step1 hb0 hb1)
  have hlt : w.heap.size + 1 + 1 < w1.heap.size := HRE.out.lt
  have hlt1 : w.heap.size + 1 < w1.heap.size := by omega
  have hlt0 : w.heap.size < w1.heap.size := by omega
  rw [HXL.out] at hown
  obtain ⟨A', c', rfl⟩ := own_form hown
  have hrg := own_range hown
  have HN1 := Lib.hid (fun k hk => (by have := hrg k hk; omega : k ≠ w1.heap.size))
  have HN2 := Lib.hid (fun k hk => (by have := hrg k hk; have := HW0; omega : k ≠ w.heap.size + 1 + 1))
  have HNB := Lib.hid (fun k hk => (by have := hrg k hk; omega : w.heap.size ≤ k))
  have HO := Lib.hid (own_mono hown hb00)
  have HD := Lib.hid hdd
  have HI := Lib.hid hii
  clear hown hin hd hre hb1 hb0 hrg hdd hii
  go_wp2_with (guard_target =~ wpList _ _ _ _ _ (World.alloc _ _); refine wpList_storeNew rfl _ _ 32 rfl _ (innL r 0 1 ot (.slice A' n c')).toArray inn_info (by rfl) (by rfl) rfl (inn_one _ _ _ _ _ _ _) ?_; have hb2 := cur_new w1 (.cells (innL r 0 1 ot (.slice A' n c')).toArray 32); have haf := Blk.new w1 32 (innL r 0 1 ot (.slice A' n c')); generalize w1.alloc (Obj.cells (innL r 0 1 ot (.slice A' n c')).toArray 32) = w2 at hb2 haf ⊢; have hre2 := HRE.out.to hb2; have hB2 := cur_step1 HB1.out hb2; have hO2 := own_below HO.out hb2 (Nat.le_refl _); have hD2 := HD.out.to hb2; have hI2 := HI.out.to hb2; have e6 : w2.cell? ⟨w.heap.size + 1, 6, none⟩ = some (.int .u8 6) := hD2.cell 6; have e7 : w2.cell? ⟨w.heap.size + 1, 7, none⟩ = some (.int .i64 1) := hD2.cell 7; have i12 : w2.cell? ⟨w.heap.size, 12, none⟩ = some (.int .i64 1) := hI2.cell 12; have HS := Lib.hid hI2; clear hb2 HRE HB1 HO HD HI)
  have HAF2 := Lib.hid haf
  have HRE2 := Lib.hid hre2
  have HB2 := Lib.hid hB2
  have HO2 := Lib.hid hO2
  have HD2 := Lib.hid hD2
  clear haf hre2 hB2 hO2 hD2
  go_region
  all_goals
    have hre3 : Blk w2.drew (w.heap.size + 1 + 1) 32 zeroL := HRE2.out
    have hB3 : Below w.heap.size w w2.drew := HB2.out.drew
    have hO3 : w2.drew.ownsRow w.heap.size 50 1 (.slice A' n c') n xs := HO2.out
    have haf : Blk w2.drew w1.heap.size 32 (innL r 0 1 ot (.slice A' n c')) := HAF2.out
    have e2 : w2.drew.cell? ⟨w.heap.size + 1, 2, none⟩ = some (.int .i64 1) := HD2.out.cell 2
    have e5 : w2.drew.cell? ⟨w.heap.size + 1, 5, none⟩ = some (.bool true) := HD2.out.cell 5
    clear e6 e7 i12 HS HAF2 HRE2 HB2 HO2 HD2
    generalize w2.drew = w3 at hre3 hB3 hO3 haf e2 e5 ⊢
    have c3 : w3.cell? ⟨w1.heap.size, 12, none⟩ = some (.int .i64 1) := haf.cell 12
    have f1 := haf.frozen 12
    have HA3 := Lib.hid (show Blk (w3.setCell ⟨w1.heap.size, 12, none⟩ (.int .i64 0)) w1.heap.size 32 (innL r 0 0 ot (.slice A' n c')) from haf.set 12 (.int .i64 0))
    have HRE3 := Lib.hid hre3
    have HB3 := Lib.hid hB3
    have HO3 := Lib.hid hO3
    clear haf hre3 hB3 hO3
    go_wp2_with (first
      | (go_at_call 24; refine (dismiss_f r 0 0 ot 1 A' n c' w1.heap.size w.heap.size xs _ hl (by decide) HA3.out (own_other HO3.out HN1.out _ _) HN1.out (by omega)).mono ?_; rintro e w4 ⟨rfl, hA4, hO4, hD4⟩; have HA4 := Lib.hid hA4; have HO4 := Lib.hid hO4; have HRE4 := Lib.hid (dis_blk hD4 (HRE3.out.other (by omega) _ _) (by omega) HN2.out); have HB4 := Lib.hid (hD4.below _ _ (below_set HB3.out (by omega) _ _) (by omega) HNB.out); clear hA4 hO4 hD4)
      | (refine wpList_load_row rfl 32 _ rfl w1.heap.size (by rfl) 32 (innL r 1 0 ot (.slice A' n c')).toArray (0, 0) _ HA4.out Try.underlying32 rfl inn_info ?_)
      | (refine wpList_storeC rfl _ _ 32 rfl (w.heap.size + 1 + 1) 32 zeroL (innL r 1 0 ot (.slice A' n c')).toArray inn_info (by rfl) (by rfl) HRE4.out rfl (inn_one _ _ _ _ _ _ _) ?_))
    refine ret_cell (g := w.heap.size + 1 + 1) (xs := innL r 1 0 ot (.slice A' n c')) rfl rfl (blk_row HRE4.out _) Try.underlying32 rfl inn_info rfl ?_
    exact ⟨_, rfl, own_row HO4.out HN2.out _, row_below HB4.out (by omega) _⟩
end Go.Proofs.Ytjlmlafiojpjmaa
