/-
  Chapter 58: few of the laws.
-/
import Derived.Test.YtimmlffgokgekaaArcL
set_option linter.unusedSimpArgs false
set_option linter.unusedVariables false
namespace Go.Proofs.Ytimmlffgokgekaa
open Go.RowKit
set_option maxRecDepth 100000
set_option maxHeartbeats 4000000
def cut20 (x : Ent) : Ent := ⟨x.id, x.ev, x.sc.extract 0 (min x.sc.size 20)⟩
def fewA (l : List Ent) : List Ent := (l.take 12).map cut20
theorem cut20_sc (x : Ent) : (cut20 x).sc.size ≤ 20 := by unfold cut20; simp only [ByteArray.size_extract]; omega
theorem fewA_len (l : List Ent) : (fewA l).length ≤ 12 := by unfold fewA; simp; omega
theorem fewA_sc (l : List Ent) : ∀ x ∈ fewA l, x.sc.size ≤ 20 := by
  intro x hx
  obtain ⟨y, _, rfl⟩ := List.mem_map.1 hx
  exact cut20_sc y
theorem few_p (l0 : List Ent) (A0 : Option Addr) (c0 : Nat) (w : World) (hn : l0.length ≤ c0) (hc : c0 ≤ 9223372036854775807) (hsc : ∀ x ∈ l0, x.sc.size ≤ 9223372036854775807) (hrd : Rd entE 21 w w.heap.size A0 l0) :
    Calls Try.prog 9 #[.slice A0 l0.length c0] w fun e' w' => (∃ v, e' = .returned v ∧ OwnL entE 21 39 w.heap.size w' v (fewA l0)) ∧ Below w.heap.size w w' := by
  obtain ⟨n, hn0⟩ : ∃ n, l0.length = n := ⟨_, rfl⟩
  rw [hn0] at hn ⊢
  obtain ⟨l, hl0⟩ : ∃ l, l0.take 12 = l := ⟨_, rfl⟩
  have HF := Lib.hid (show fewA l0 = l.map cut20 by unfold fewA; rw [hl0])
  have hlen : min n 12 = l.length := by rw [← hl0, ← hn0]; simp; omega
  have HRD := Lib.hid (show Rd entE 21 w w.heap.size A0 l by rw [← hl0]; exact hrd.pre 12)
  have HSC := Lib.hid (show ∀ x ∈ l, x.sc.size ≤ 9223372036854775807 by intro x hx; rw [← hl0] at hx; exact hsc x (List.mem_of_mem_take hx))
  have hl : l.length ≤ 12 := by omega
  have hmin : min (n : Int) 12 = (l.length : Nat) := by omega
  have h1 : (l.length : Int) ≤ c0 := by omega
  have h2 : ¬ (c0 : Int) < l.length := by omega
  clear hrd hsc hl0 hn0
  go_enter Try.func9, Try.ntmps9
  go_wp2_with (fail)
  go_loopw [3, 12] (GrR entE 21 39 cut20 l w.heap.size w) (fun _ i _ => l.length - (intOf i).toNat)
  case atStart => exact ⟨0, _, _, by omega, rfl, rfl, World.ownsRow_nil _ _ _ _, Nat.le_refl _, Below.refl _ _, Nat.le_refl _⟩
  case round =>
    obtain ⟨k, A, c, hk, rfl, rfl, hown, _, hb, _⟩ := hrel
    have HO := Lib.hid hown
    have HB := Lib.hid hb
    clear hown hb
    by_cases hkl : k < l.length
    · obtain ⟨x, hx⟩ : ∃ x, l[k]? = some x := ⟨_, List.getElem?_eq_getElem hkl⟩
      obtain ⟨b2, off2, rfl, hb2l, hc2⟩ := HRD.out k x hx
      have HRA := Lib.hid (show wr.rangeAt b2 (off2 + k * 21) (entE x) from fun j v hv => (HB.out.cell (p := ⟨b2, off2 + k * 21 + j, none⟩) hb2l).trans (hc2 j v hv))
      obtain ⟨M, hM⟩ : ∃ M, (l.take k).map cut20 = M := ⟨_, rfl⟩
      have HM := Lib.hid (show (l.take (k + 1)).map cut20 = M ++ [cut20 x] by rw [List.take_add_one, hx, ← hM]; simp)
      have HML := Lib.hid (show M.length = k by rw [← hM]; simp; omega)
      have hxs := HSC.out x (List.mem_of_getElem? hx)
      obtain ⟨m, hm⟩ : ∃ m : Nat, min x.sc.size 20 = m := ⟨_, rfl⟩
      have hm1 : m ≤ x.sc.size := by omega
      have hm2 : min (x.sc.size : Int) 20 = (m : Nat) := by omega
      obtain ⟨q, hq⟩ : ∃ q, x.sc.extract 0 m = q := ⟨_, rfl⟩
      have HCU := Lib.hid (show entE (cut20 x) = (entE x).set 20 (.string q) by unfold cut20; rw [hm, hq]; rfl)
      have HQ := Lib.hid hq
      rw [hM] at HO ⊢
      clear hc2 hx hM hm hq
      obtain ⟨W6, hW6⟩ : ∃ y, wr.alloc (.cells (entE x).toArray 39) = y := ⟨_, rfl⟩
      have HB6 := Lib.hid (show Below wr.heap.size wr W6 by rw [← hW6]; exact cur_new _ _)
      have HX6 := Lib.hid (show Blk W6 wr.heap.size 39 (entE x) by rw [← hW6]; exact Blk.new wr _ _)
      have S6 := Lib.hid hW6
      have e20 : W6.cell? ⟨wr.heap.size, 20, none⟩ = some (.string x.sc) := by rw [HX6.out.cell]; rfl
      have f20 : W6.frozen? ⟨wr.heap.size, 20, none⟩ = false := HX6.out.frozen 20
      clear hW6
      go_upto_region 6 with (first | (refine wpList_load_mid rfl 39 _ rfl b2 (off2 + k * 21) (by rfl) (entE x) _ HRA.out (by rfl) (by rfl) ent_info ?_) | (refine wpList_storeNew rfl _ _ 39 rfl _ (entE x).toArray ent_info (by rfl) (by rfl) rfl (ent_one _) ?_; rw [S6.out]))
      rw [HQ.out]
      have HX8 := Lib.hid (show Blk (W6.setCell ⟨wr.heap.size, 20, none⟩ (.string q)) wr.heap.size 39 (entE (cut20 x)) by rw [HCU.out]; exact HX6.out.set 20 _)
      have HB8 := Lib.hid (show Below wr.heap.size wr (W6.setCell ⟨wr.heap.size, 20, none⟩ (.string q)) from below_set HB6.out (Nat.le_refl _) _ _)
      generalize W6.setCell ⟨wr.heap.size, 20, none⟩ (.string q) = W8 at HX8 HB8 ⊢
      refine wp_region_lit ?_
      (refine wpList_step (fun K hK => ?_); go_simp; refine hK _ _ ?_; clear hK K)
      refine wpList_loadC rfl _ 39 rfl wr.heap.size 39 (entE (cut20 x)) _ (by rfl) (by rfl) (by rfl) (by rfl) HX8.out ?_
      refine wpList_buildE Try.enElem rfl 1 _ rfl [cut20 x] rfl (by decide) (by decide) (by rfl) ?_
      rw [show [cut20 x].flatMap entE = entE (cut20 x) from List.append_nil _]
      obtain ⟨W7, hW7⟩ : ∃ y, W8.alloc (.cells (entE (cut20 x)).toArray 39) = y := ⟨_, rfl⟩
      have hb7 : Below W8.heap.size W8 W7 := by rw [← hW7]; exact cur_new _ _
      have hk7 : W7.heap[W8.heap.size]? = some (.cells (entE (cut20 x)).toArray 39 (0, 0)) := by rw [← hW7]; exact heap_alloc_new _ _
      rw [hW7]
      clear hW7
      refine wpList_app1 Try.enElem W7 rfl (.tmp 24) (.tmp 26) rfl w.heap.size A c M (by rfl) (own_below (own_below HO.out HB8.out (Nat.le_refl _)) hb7 (Nat.le_refl _)) (cut20 x) W8.heap.size 1 (by rfl) hk7 (by have := HML.out; unfold maxLen; omega) (by have := HML.out; omega) ((cur_step1 (cur_step1 HB.out HB8.out) hb7).size) ?_
      intro g2 cap w8 ha
      have hb8 := app1_end HB.out (own_base HO.out) (cur_step1 HB8.out hb7) ha
      clear hk7 hb7
      have HB9 := Lib.hid hb8.1
      have HO9 := Lib.hid hb8.2
      clear ha hb8
      go_wp2_with (fail)
      refine ⟨⟨k + 1, some ⟨g2, 0, none⟩, cap, by omega, rfl, by rw [HM.out, List.length_append]; rfl, ?_, Nat.le_refl _, HB9.out, HB9.out.size⟩, by show l.length - (k + 1) < l.length - k; omega⟩
      rw [HM.out]
      have := HO9.out
      rw [List.length_append] at this
      exact this
    · have HKN := Lib.hid (show k = l.length by omega)
      go_wp2_with (fail)
      go_ret
      refine ⟨⟨_, rfl, ?_⟩, HB.out⟩
      rw [HF.out, show l.map cut20 = (l.take k).map cut20 from by rw [show l.take k = l from by rw [HKN.out]; exact List.take_length]]
      exact HO.out
end Go.Proofs.Ytimmlffgokgekaa
