/-
  Chapter 58: Log of the program and of the reference; few of the laws.
-/
import Derived.Test.YtimmlffgokgekaaArcK
import Derived.Test.YtimmlffgokgekaaBuE
set_option linter.unusedSimpArgs false
set_option linter.unusedVariables false
namespace Go.Proofs.Ytimmlffgokgekaa
open Go.RowKit
set_option maxRecDepth 100000
set_option maxHeartbeats 4000000
theorem Try.infoEv : (Try.prog.info? 37).map (fun i => (i.zero, i.size, i.bytes)) = some (some (.agg (evE zeroE).toArray), 19, 136) := by kernel_rfl
theorem Try.evElem : ElemOf Try.prog evE 19 136 44 37 := .mk' Try.infoEv rfl Try.underlying44 (by decide) evE_len (fun x u hu => by simp [evE, delE] at hu; rcases hu with rfl | rfl | rfl | rfl | rfl | rfl | rfl | rfl | rfl | rfl | rfl | rfl | rfl | rfl | rfl | rfl | rfl | rfl | rfl <;> rfl)
theorem Try.infoEnt : (Try.prog.info? 39).map (fun i => (i.zero, i.size, i.bytes)) = some (some (.agg (entE ⟨0, zeroE, ByteArray.empty⟩).toArray), 21, 160) := by kernel_rfl
theorem Try.enElem : ElemOf Try.prog entE 21 160 22 39 := .mk' Try.infoEnt rfl Try.underlying22 (by decide) entE_len ent_one'
theorem own_base {w : World} {base e size n : Nat} {v : Value} {xs : List Value} (h : w.ownsRow base e size v n xs) : ∀ k, v.ownBlock = some k → base ≤ k := fun k hk => (own_range h k hk).1
/-- A row of the call's own that grows by one in each round. -/
def GrR {α β : Type} (enc : β → List Value) (size : Nat) (e : TypeId) (f : α → β) (l : List α) (b : Nat) (w : World) (v iv : Value) (wr : World) : Prop :=
  ∃ (k : Nat) (A : Option Addr) (c : Nat), k ≤ l.length ∧ iv = .int .i64 k ∧ v = .slice A ((l.take k).map f).length c ∧ OwnL enc size e b wr v ((l.take k).map f) ∧ w.heap.size ≤ b ∧ Below w.heap.size w wr ∧ b ≤ wr.heap.size

theorem log_p (l : List Ent) (A0 : Option Addr) (c0 : Nat) (w : World) (hl : l.length ≤ 1000000) (hrd : Rd entE 21 w w.heap.size A0 l) :
    Calls Try.prog 14 #[.slice A0 l.length c0] w fun e' w' => (∃ v, e' = .returned v ∧ OwnL evE 19 37 w.heap.size w' v (l.map Ent.ev)) ∧ Below w.heap.size w w' := by
  have HRD := Lib.hid hrd
  clear hrd
  go_enter Try.func14, Try.ntmps14
  go_wp2_with (fail)
  go_loopw [3, 8] (GrR evE 19 37 Ent.ev l w.heap.size w) (fun _ i _ => l.length - (intOf i).toNat)
  case atStart => exact ⟨0, _, _, by omega, rfl, rfl, World.ownsRow_nil _ _ _ _, Nat.le_refl _, Below.refl _ _, Nat.le_refl _⟩
  case round =>
    obtain ⟨k, A, c, hk, rfl, rfl, hown, _, hb, _⟩ := hrel
    have HO := Lib.hid hown
    have HB := Lib.hid hb
    clear hown hb
    by_cases hkl : k < l.length
    · obtain ⟨x, hx⟩ : ∃ x, l[k]? = some x := ⟨_, List.getElem?_eq_getElem hkl⟩
      obtain ⟨b2, off2, rfl, hb2l, hc2⟩ := HRD.out k x hx
      have hra : wr.rangeAt b2 (off2 + k * 21) (entE x) := fun j v hv => (HB.out.cell (p := ⟨b2, off2 + k * 21 + j, none⟩) hb2l).trans (hc2 j v hv)
      have HRA := Lib.hid hra
      obtain ⟨M, hM⟩ : ∃ M, (l.take k).map Ent.ev = M := ⟨_, rfl⟩
      have HM := Lib.hid (show (l.take (k + 1)).map Ent.ev = M ++ [x.ev] by rw [List.take_add_one, hx, ← hM]; simp)
      have HML := Lib.hid (show M.length = k by rw [← hM]; simp; omega)
      rw [hM] at HO ⊢
      clear hra hc2 hx hM
      obtain ⟨W6, hW6⟩ : ∃ y, wr.alloc (.cells (entE x).toArray 39) = y := ⟨_, rfl⟩
      have HB6 := Lib.hid (show Below wr.heap.size wr W6 by rw [← hW6]; exact cur_new _ _)
      have HX6 := Lib.hid (show Blk W6 wr.heap.size 39 (entE x) by rw [← hW6]; exact Blk.new wr _ _)
      have S6 := Lib.hid hW6
      have HXN := Lib.hid (show W6.rangeAt wr.heap.size 1 (evE x.ev) from fun j v hv => by
        rw [HX6.out.cell]
        exact entE_ev x hv)
      clear hW6
      go_upto_region 5 with (first | (refine wpList_load_mid rfl 39 _ rfl b2 (off2 + k * 21) (by rfl) (entE x) _ HRA.out (by rfl) (by rfl) ent_info ?_) | (refine wpList_storeNew rfl _ _ 39 rfl _ (entE x).toArray ent_info (by rfl) (by rfl) rfl (ent_one _) ?_; rw [S6.out]))
      refine wp_region_lit ?_
      (refine wpList_step (fun K hK => ?_); go_simp; refine hK _ _ ?_; clear hK K)
      (refine wpList_step (fun K hK => ?_); go_simp; refine hK _ _ ?_; clear hK K)
      refine wpList_load_mid rfl 37 _ rfl wr.heap.size 1 (by rfl) (evE x.ev) _ HXN.out (by rfl) (by rfl) evt_info3 ?_
      refine wpList_buildE Try.evElem rfl 1 _ rfl [x.ev] rfl (by decide) (by decide) (by rfl) ?_
      rw [show [x.ev].flatMap evE = evE x.ev from List.append_nil _]
      obtain ⟨W7, hW7⟩ : ∃ y, W6.alloc (.cells (evE x.ev).toArray 37) = y := ⟨_, rfl⟩
      have hb7 : Below W6.heap.size W6 W7 := by rw [← hW7]; exact cur_new _ _
      have hk7 : W7.heap[W6.heap.size]? = some (.cells (evE x.ev).toArray 37 (0, 0)) := by rw [← hW7]; exact heap_alloc_new _ _
      rw [hW7]
      clear hW7
      refine wpList_app1 Try.evElem W7 rfl (.tmp 12) (.tmp 15) rfl w.heap.size A c M (by rfl) (own_below (own_below HO.out HB6.out (Nat.le_refl _)) hb7 (Nat.le_refl _)) x.ev W6.heap.size 1 (by rfl) hk7 (by have := HML.out; unfold maxLen; omega) (by have := HML.out; omega) ((cur_step1 (cur_step1 HB.out HB6.out) hb7).size) ?_
      intro g2 cap w8 ha
      have hb8 := app1_end HB.out (own_base HO.out) (cur_step1 HB6.out hb7) ha
      clear hk7 hb7
      have HB8 := Lib.hid hb8.1
      have HO8 := Lib.hid hb8.2
      clear ha hb8
      go_wp2_with (fail)
      refine ⟨⟨k + 1, some ⟨g2, 0, none⟩, cap, by omega, rfl, by rw [HM.out, List.length_append]; rfl, ?_, Nat.le_refl _, HB8.out, HB8.out.size⟩, by show l.length - (k + 1) < l.length - k; omega⟩
      rw [HM.out]
      have := HO8.out
      rw [List.length_append] at this
      exact this
    · have HKN := Lib.hid (show k = l.length by omega)
      go_wp2_with (fail)
      go_ret
      refine ⟨⟨_, rfl, ?_⟩, HB.out⟩
      rw [show l.map Ent.ev = (l.take k).map Ent.ev from by rw [show l.take k = l from by rw [HKN.out]; exact List.take_length]]
      exact HO.out

theorem log_r (l : List Ent) (A0 : Option Addr) (c0 : Nat) (w : World) (hl : l.length ≤ 1000000) (hrd : Rd entE 21 w w.heap.size A0 l) :
    Calls Try.prog 18 #[.slice A0 l.length c0] w fun e' w' => (∃ v, e' = .returned v ∧ OwnL evE 19 37 w.heap.size w' v (l.map Ent.ev)) ∧ Below w.heap.size w w' := by
  have HRD := Lib.hid hrd
  clear hrd
  go_enter Try.func18, Try.ntmps18
  go_wp2_with (fail)
  go_loopw [3, 9] (GrR evE 19 37 Ent.ev l w.heap.size w) (fun _ i _ => l.length - (intOf i).toNat)
  case atStart => exact ⟨0, _, _, by omega, rfl, rfl, World.ownsRow_made w #[] 0 (Nat.le_refl _) (Nat.zero_le _) (by simp), Nat.le_refl _, cur_new _ _, by simp⟩
  case round =>
    obtain ⟨k, A, c, hk, rfl, rfl, hown, _, hb, _⟩ := hrel
    have HO := Lib.hid hown
    have HB := Lib.hid hb
    clear hown hb
    by_cases hkl : k < l.length
    · obtain ⟨x, hx⟩ : ∃ x, l[k]? = some x := ⟨_, List.getElem?_eq_getElem hkl⟩
      obtain ⟨b2, off2, rfl, hb2l, hc2⟩ := HRD.out k x hx
      have hra : wr.rangeAt b2 (off2 + k * 21) (entE x) := fun j v hv => (HB.out.cell (p := ⟨b2, off2 + k * 21 + j, none⟩) hb2l).trans (hc2 j v hv)
      have HRA := Lib.hid hra
      obtain ⟨M, hM⟩ : ∃ M, (l.take k).map Ent.ev = M := ⟨_, rfl⟩
      have HM := Lib.hid (show (l.take (k + 1)).map Ent.ev = M ++ [x.ev] by rw [List.take_add_one, hx, ← hM]; simp)
      have HML := Lib.hid (show M.length = k by rw [← hM]; simp; omega)
      rw [hM] at HO ⊢
      clear hra hc2 hx hM
      obtain ⟨W6, hW6⟩ : ∃ y, wr.alloc (.cells (entE x).toArray 39) = y := ⟨_, rfl⟩
      have HB6 := Lib.hid (show Below wr.heap.size wr W6 by rw [← hW6]; exact cur_new _ _)
      have HX6 := Lib.hid (show Blk W6 wr.heap.size 39 (entE x) by rw [← hW6]; exact Blk.new wr _ _)
      have S6 := Lib.hid hW6
      have HXN := Lib.hid (show W6.rangeAt wr.heap.size 1 (evE x.ev) from fun j v hv => by
        rw [HX6.out.cell]
        exact entE_ev x hv)
      clear hW6
      go_upto_region 5 with (first | (refine wpList_load_mid rfl 39 _ rfl b2 (off2 + k * 21) (by rfl) (entE x) _ HRA.out (by rfl) (by rfl) ent_info ?_) | (refine wpList_storeNew rfl _ _ 39 rfl _ (entE x).toArray ent_info (by rfl) (by rfl) rfl (ent_one _) ?_; rw [S6.out]))
      refine wp_region_lit ?_
      (refine wpList_step (fun K hK => ?_); go_simp; refine hK _ _ ?_; clear hK K)
      (refine wpList_step (fun K hK => ?_); go_simp; refine hK _ _ ?_; clear hK K)
      refine wpList_load_mid rfl 37 _ rfl wr.heap.size 1 (by rfl) (evE x.ev) _ HXN.out (by rfl) (by rfl) evt_info3 ?_
      refine wpList_buildE Try.evElem rfl 1 _ rfl [x.ev] rfl (by decide) (by decide) (by rfl) ?_
      rw [show [x.ev].flatMap evE = evE x.ev from List.append_nil _]
      obtain ⟨W7, hW7⟩ : ∃ y, W6.alloc (.cells (evE x.ev).toArray 37) = y := ⟨_, rfl⟩
      have hb7 : Below W6.heap.size W6 W7 := by rw [← hW7]; exact cur_new _ _
      have hk7 : W7.heap[W6.heap.size]? = some (.cells (evE x.ev).toArray 37 (0, 0)) := by rw [← hW7]; exact heap_alloc_new _ _
      rw [hW7]
      clear hW7
      refine wpList_app1 Try.evElem W7 rfl (.tmp 13) (.tmp 16) rfl w.heap.size A c M (by rfl) (own_below (own_below HO.out HB6.out (Nat.le_refl _)) hb7 (Nat.le_refl _)) x.ev W6.heap.size 1 (by rfl) hk7 (by have := HML.out; unfold maxLen; omega) (by have := HML.out; omega) ((cur_step1 (cur_step1 HB.out HB6.out) hb7).size) ?_
      intro g2 cap w8 ha
      have hb8 := app1_end HB.out (own_base HO.out) (cur_step1 HB6.out hb7) ha
      clear hk7 hb7
      have HB8 := Lib.hid hb8.1
      have HO8 := Lib.hid hb8.2
      clear ha hb8
      go_wp2_with (fail)
      refine ⟨⟨k + 1, some ⟨g2, 0, none⟩, cap, by omega, rfl, by rw [HM.out, List.length_append]; rfl, ?_, Nat.le_refl _, HB8.out, HB8.out.size⟩, by show l.length - (k + 1) < l.length - k; omega⟩
      rw [HM.out]
      have := HO8.out
      rw [List.length_append] at this
      exact this
    · have HKN := Lib.hid (show k = l.length by omega)
      go_wp2_with (fail)
      go_ret
      refine ⟨⟨_, rfl, ?_⟩, HB.out⟩
      rw [show l.map Ent.ev = (l.take k).map Ent.ev from by rw [show l.take k = l from by rw [HKN.out]; exact List.take_length]]
      exact HO.out
end Go.Proofs.Ytimmlffgokgekaa
