/-
  Chapter 58: File of the program and of the reference.
-/
import Derived.Test.YtimmlffgokgekaaAwk58
set_option linter.unusedSimpArgs false
set_option linter.unusedVariables false
namespace Go.Proofs.Ytimmlffgokgekaa
open Go.RowKit
set_option maxRecDepth 100000
set_option maxHeartbeats 20000000
def filE (l : List Ev) (s : ByteArray) : List Ent := l.mapIdx fun k e => ⟨((k : Int) + 1) * 1000, e, s⟩
theorem filE_len (l : List Ev) (s : ByteArray) : (filE l s).length = l.length := by unfold filE; simp
theorem filE_next {l : List Ev} {s : ByteArray} {k : Nat} {x : Ev} (h : l[k]? = some x) : filE (l.take (k + 1)) s = filE (l.take k) s ++ [⟨((k : Int) + 1) * 1000, x, s⟩] := by
  have hk := (List.getElem?_eq_some_iff.1 h).1
  unfold filE
  rw [List.take_add_one, h]
  simp only [Option.toList_some, List.mapIdx_append, List.mapIdx_cons, List.mapIdx_nil, List.length_take]
  rw [Nat.min_eq_left (by omega), Nat.zero_add]
theorem filE_sc (l : List Ev) (s : ByteArray) : ∀ x ∈ filE l s, x.sc = s := by
  intro x hx
  unfold filE at hx
  obtain ⟨i, hi, rfl⟩ := List.mem_mapIdx.1 hx
  rfl
theorem filE_ev (l : List Ev) (s : ByteArray) : (filE l s).map Ent.ev = l := by
  unfold filE
  apply List.ext_getElem
  · simp
  · intro i h1 h2; simp
theorem wrap_in {x : Int} (h1 : -9223372036854775808 ≤ x) (h2 : x ≤ 9223372036854775807) : IntKind.i64.wrap x = x := by
  first | (simp [go_sem]; omega) | (simp [IntKind.wrap, IntKind.bits, IntKind.signed]; omega) | (unfold IntKind.wrap; simp [IntKind.bits, IntKind.signed]; omega)
def filM (F : List Ent) : List Ent := if chkA F = 0 then F else []
def FiR (l : List Ev) (s : ByteArray) (b : Nat) (w : World) (v iv : Value) (wr : World) : Prop :=
  ∃ (k : Nat) (A : Option Addr) (c : Nat), k ≤ l.length ∧ iv = .int .i64 k ∧ v = .slice A (filE (l.take k) s).length c ∧ OwnL entE 21 39 b wr v (filE (l.take k) s) ∧ Below w.heap.size w wr ∧ w.heap.size ≤ b ∧ b ≤ wr.heap.size
theorem file_p (l : List Ev) (s : ByteArray) (A0 : Option Addr) (c0 : Nat) (w : World) (hl : l.length ≤ 400) (hs : s.size ≤ 9223372036854775807) (hrd : Rd evE 19 w w.heap.size A0 l) :
    Calls Try.prog 19 #[.slice A0 l.length c0, .string s] w fun e' w' => (∃ A c, e' = .returned (.tuple #[.slice A (filM (filE l s)).length c, .int .i64 (chkA (filE l s))]) ∧ Rd entE 21 w' w'.heap.size A (filM (filE l s))) ∧ Below w.heap.size w w' := by
  have HRD := Lib.hid hrd
  have HSS := Lib.hid (show ∀ x ∈ filE l s, x.sc.size ≤ 9223372036854775807 from fun x hx => by rw [filE_sc l s x hx]; exact hs)
  clear hrd hs
  go_enter Try.func19, Try.ntmps19
  go_wp2_with (fail)
  go_loopw [6, 15] (FiR l s w.heap.size w) (fun _ i _ => l.length - (intOf i).toNat)
  case atStart => exact ⟨0, none, 0, by omega, rfl, rfl, World.ownsRow_nil _ _ _ _, Below.refl _ _, Nat.le_refl _, Nat.le_refl _⟩
  case round =>
    obtain ⟨k, A, c, hk, rfl, rfl, hown, hb, _, _⟩ := hrel
    have HO := Lib.hid hown
    have HB := Lib.hid hb
    clear hown hb
    by_cases hkl : k < l.length
    · obtain ⟨x, hx⟩ : ∃ x, l[k]? = some x := ⟨_, List.getElem?_eq_getElem hkl⟩
      obtain ⟨b2, off2, rfl, hb2l, hc2⟩ := rd_at HRD.out HB.out hx
      have HRA := Lib.hid hc2
      obtain ⟨M, hM⟩ : ∃ M, filE (l.take k) s = M := ⟨_, rfl⟩
      have HM := Lib.hid (show filE (l.take (k + 1)) s = M ++ [⟨((k : Int) + 1) * 1000, x, s⟩] by rw [filE_next hx, hM])
      have HML := Lib.hid (show M.length = k by rw [← hM, filE_len]; simp; omega)
      have hk400 : k < 400 := by omega
      have hw1 : IntKind.i64.wrap ((k : Int) + 1) = (k : Int) + 1 := wrap_in (by omega) (by omega)
      have hw2 : IntKind.i64.wrap (((k : Int) + 1) * 1000) = ((k : Int) + 1) * 1000 := wrap_in (by omega) (by omega)
      rw [hM] at HO ⊢
      clear hc2 hx hM
      obtain ⟨W6, hW6⟩ : ∃ y, wr.alloc (.cells (evE x).toArray 37) = y := ⟨_, rfl⟩
      have HB6 := Lib.hid (show Below wr.heap.size wr W6 by rw [← hW6]; exact cur_new _ _)
      have HX6 := Lib.hid (show Blk W6 wr.heap.size 37 (evE x) by rw [← hW6]; exact Blk.new wr _ _)
      have S6 := Lib.hid hW6
      clear hW6
      go_upto_region 7 with (first | (refine wpList_load_mid rfl 37 _ rfl b2 (off2 + k * 19) (by rfl) (evE x) _ HRA.out (by rfl) (by rfl) evt_info3 ?_) | (refine wpList_storeNew rfl _ _ 37 rfl _ (evE x).toArray evt_info3 (by rfl) (by rfl) rfl (evt_one _) ?_; rw [S6.out]))
      refine wp_region_lit ?_
      (refine wpList_step (fun K hK => ?_); go_simp; refine hK _ _ ?_; clear hK K)
      (refine wpList_step (fun K hK => ?_); go_simp; refine hK _ _ ?_; clear hK K)
      (refine wpList_step (fun K hK => ?_); go_simp; refine hK _ _ ?_; clear hK K)
      (refine wpList_step (fun K hK => ?_); go_simp; refine hK _ _ ?_; clear hK K)

      refine wpList_loadC rfl _ 37 rfl wr.heap.size 37 (evE x) _ (by rfl) (by rfl) (by rfl) (by rfl) HX6.out ?_
      (refine wpList_step (fun K hK => ?_); go_simp; refine hK _ _ ?_; clear hK K)
      refine wpList_buildTo rfl _ _ rfl _ rfl (entE ⟨((k : Int) + 1) * 1000, x, s⟩).toArray (by kernel_rfl) ?_
      refine wpList_buildE Try.enElem rfl 1 _ rfl [⟨((k : Int) + 1) * 1000, x, s⟩] rfl (by decide) (by decide) (by rfl) ?_
      rw [show [(⟨((k : Int) + 1) * 1000, x, s⟩ : Ent)].flatMap entE = entE ⟨((k : Int) + 1) * 1000, x, s⟩ from List.append_nil _]
      obtain ⟨W7, hW7⟩ : ∃ y, W6.alloc (.cells (entE ⟨((k : Int) + 1) * 1000, x, s⟩).toArray 39) = y := ⟨_, rfl⟩
      have hb7 : Below W6.heap.size W6 W7 := by rw [← hW7]; exact cur_new _ _
      have hk7 : W7.heap[W6.heap.size]? = some (.cells (entE ⟨((k : Int) + 1) * 1000, x, s⟩).toArray 39 (0, 0)) := by rw [← hW7]; exact heap_alloc_new _ _
      rw [hW7]
      clear hW7
      have hbs := (cur_step1 HB6.out hb7).size
      refine wpList_app1 Try.enElem W7 rfl (.tmp 20) (.tmp 27) rfl _ A c M (by rfl) (own_below (own_below HO.out HB6.out (Nat.le_refl _)) hb7 (Nat.le_refl _)) ⟨((k : Int) + 1) * 1000, x, s⟩ W6.heap.size 1 (by rfl) hk7 (by have := HML.out; unfold maxLen; omega) (by have := HML.out; omega) (by omega) ?_
      intro g2 cap w8 ha
      have HB8 := Lib.hid ((cur_step1 (cur_step1 HB.out HB6.out) hb7).grown ha.grown (cur_step1 (cur_step1 HB.out HB6.out) hb7).size (fun b hb => Nat.le_trans (by omega) (own_base HO.out b hb)))
      have HS8 := Lib.hid (Nat.le_trans hbs ha.grown.size)
      have HO8 := Lib.hid (show OwnL entE 21 39 _ w8 (.slice (some ⟨g2, 0, none⟩) (M.length + 1) cap) (M ++ [⟨((k : Int) + 1) * 1000, x, s⟩]) from ha.one rfl)
      clear ha hk7 hb7 hbs
      go_wp2_with (fail)
      refine ⟨⟨k + 1, some ⟨g2, 0, none⟩, cap, by omega, rfl, by rw [HM.out, List.length_append]; rfl, ?_, HB8.out, by omega, by have := HS8.out; omega⟩, by show l.length - (k + 1) < l.length - k; omega⟩
      rw [HM.out]
      exact HO8.out
    · have HF := Lib.hid (show filE (l.take k) s = filE l s by rw [show k = l.length by omega, List.take_length])
      rw [HF.out] at HO ⊢
      clear HF
      obtain ⟨Ao, co, e0, hr, _⟩ := OwnL.rd entE_len HO.out
      injection e0 with e1 e2 e3
      subst e1 e3
      have HR := Lib.hid hr
      have HFL := Lib.hid (filE_len l s)
      clear hr HO
      obtain ⟨F, hF⟩ : ∃ F, filE l s = F := ⟨_, rfl⟩
      rw [hF] at HR HFL HSS ⊢
      have HFE := Lib.hid hF
      clear hF
      have hfl : F.length ≤ 400 := by rw [HFL.out]; exact hl
      go_wp2_with (fail)
      refine (chka_p F A c wr (by omega) HSS.out HR.out).mono ?_
      rintro e w2 ⟨rfl, hb2⟩
      have HR2 := Lib.hid (HR.out.to hb2)
      have HB2 := Lib.hid (cur_step1 HB.out hb2)
      clear hb2
      by_cases hc : chkA F = 0
      · rw [hc]
        have HC := Lib.hid (show filM F = F by unfold filM; rw [if_pos hc])
        have HV := Lib.hid hc
        clear hc
        go_wp2_with (fail)
        go_ret2
        rw [HFE.out, HC.out, HV.out]
        exact ⟨⟨A, c, rfl, HR2.out⟩, HB2.out⟩
      · obtain ⟨v, hv⟩ : ∃ v, chkA F = v := ⟨_, rfl⟩
        have HC := Lib.hid (show filM F = [] by unfold filM; rw [if_neg hc])
        rw [hv] at hc ⊢
        have gv : (v != 0) = true := by simpa using hc
        have HV := Lib.hid hv
        clear hc hv
        go_wp2_with (fail)
        go_ret2
        rw [HFE.out, HC.out, HV.out]
        exact ⟨⟨none, 0, rfl, Rd.nil_⟩, HB2.out⟩
theorem file_r (l : List Ev) (s : ByteArray) (A0 : Option Addr) (c0 : Nat) (w : World) (hl : l.length ≤ 400) (hs : s.size ≤ 9223372036854775807) (hrd : Rd evE 19 w w.heap.size A0 l) :
    Calls Try.prog 20 #[.slice A0 l.length c0, .string s] w fun e' w' => (∃ A c, e' = .returned (.tuple #[.slice A (filM (filE l s)).length c, .int .i64 (chkA (filE l s))]) ∧ Rd entE 21 w' w'.heap.size A (filM (filE l s))) ∧ Below w.heap.size w w' := by
  have HRD := Lib.hid hrd
  have HSS := Lib.hid (show ∀ x ∈ filE l s, x.sc.size ≤ 9223372036854775807 from fun x hx => by rw [filE_sc l s x hx]; exact hs)
  clear hrd hs
  go_enter Try.func20, Try.ntmps20
  go_wp2_with (fail)
  go_loopw [6, 13] (FiR l s w.heap.size w) (fun _ i _ => l.length - (intOf i).toNat)
  case atStart => exact ⟨0, _, _, by omega, rfl, rfl, World.ownsRow_made w #[] 0 (Nat.le_refl _) (Nat.zero_le _) (by simp), cur_new _ _, Nat.le_refl _, by simp⟩
  case round =>
    obtain ⟨k, A, c, hk, rfl, rfl, hown, hb, _, _⟩ := hrel
    have HO := Lib.hid hown
    have HB := Lib.hid hb
    clear hown hb
    by_cases hkl : k < l.length
    · obtain ⟨x, hx⟩ : ∃ x, l[k]? = some x := ⟨_, List.getElem?_eq_getElem hkl⟩
      obtain ⟨b2, off2, rfl, hb2l, hc2⟩ := rd_at HRD.out HB.out hx
      have HRA := Lib.hid hc2
      obtain ⟨M, hM⟩ : ∃ M, filE (l.take k) s = M := ⟨_, rfl⟩
      have HM := Lib.hid (show filE (l.take (k + 1)) s = M ++ [⟨((k : Int) + 1) * 1000, x, s⟩] by rw [filE_next hx, hM])
      have HML := Lib.hid (show M.length = k by rw [← hM, filE_len]; simp; omega)
      have hk400 : k < 400 := by omega
      have hw1 : IntKind.i64.wrap ((k : Int) + 1) = (k : Int) + 1 := wrap_in (by omega) (by omega)
      have hw2 : IntKind.i64.wrap (((k : Int) + 1) * 1000) = ((k : Int) + 1) * 1000 := wrap_in (by omega) (by omega)
      rw [hM] at HO ⊢
      clear hc2 hx hM
      obtain ⟨W6, hW6⟩ : ∃ y, wr.alloc (.cells (evE x).toArray 37) = y := ⟨_, rfl⟩
      have HB6 := Lib.hid (show Below wr.heap.size wr W6 by rw [← hW6]; exact cur_new _ _)
      have HX6 := Lib.hid (show Blk W6 wr.heap.size 37 (evE x) by rw [← hW6]; exact Blk.new wr _ _)
      have S6 := Lib.hid hW6
      clear hW6
      go_upto_region 5 with (first | (refine wpList_load_mid rfl 37 _ rfl b2 (off2 + k * 19) (by rfl) (evE x) _ HRA.out (by rfl) (by rfl) evt_info3 ?_) | (refine wpList_storeNew rfl _ _ 37 rfl _ (evE x).toArray evt_info3 (by rfl) (by rfl) rfl (evt_one _) ?_; rw [S6.out]))
      refine wp_region_lit ?_
      (refine wpList_step (fun K hK => ?_); go_simp; refine hK _ _ ?_; clear hK K)
      (refine wpList_step (fun K hK => ?_); go_simp; refine hK _ _ ?_; clear hK K)
      (refine wpList_step (fun K hK => ?_); go_simp; refine hK _ _ ?_; clear hK K)
      (refine wpList_step (fun K hK => ?_); go_simp; refine hK _ _ ?_; clear hK K)

      refine wpList_loadC rfl _ 37 rfl wr.heap.size 37 (evE x) _ (by rfl) (by rfl) (by rfl) (by rfl) HX6.out ?_
      (refine wpList_step (fun K hK => ?_); go_simp; refine hK _ _ ?_; clear hK K)
      refine wpList_buildTo rfl _ _ rfl _ rfl (entE ⟨((k : Int) + 1) * 1000, x, s⟩).toArray (by kernel_rfl) ?_
      refine wpList_buildE Try.enElem rfl 1 _ rfl [⟨((k : Int) + 1) * 1000, x, s⟩] rfl (by decide) (by decide) (by rfl) ?_
      rw [show [(⟨((k : Int) + 1) * 1000, x, s⟩ : Ent)].flatMap entE = entE ⟨((k : Int) + 1) * 1000, x, s⟩ from List.append_nil _]
      obtain ⟨W7, hW7⟩ : ∃ y, W6.alloc (.cells (entE ⟨((k : Int) + 1) * 1000, x, s⟩).toArray 39) = y := ⟨_, rfl⟩
      have hb7 : Below W6.heap.size W6 W7 := by rw [← hW7]; exact cur_new _ _
      have hk7 : W7.heap[W6.heap.size]? = some (.cells (entE ⟨((k : Int) + 1) * 1000, x, s⟩).toArray 39 (0, 0)) := by rw [← hW7]; exact heap_alloc_new _ _
      rw [hW7]
      clear hW7
      have hbs := (cur_step1 HB6.out hb7).size
      refine wpList_app1 Try.enElem W7 rfl (.tmp 18) (.tmp 25) rfl _ A c M (by rfl) (own_below (own_below HO.out HB6.out (Nat.le_refl _)) hb7 (Nat.le_refl _)) ⟨((k : Int) + 1) * 1000, x, s⟩ W6.heap.size 1 (by rfl) hk7 (by have := HML.out; unfold maxLen; omega) (by have := HML.out; omega) (by omega) ?_
      intro g2 cap w8 ha
      have HB8 := Lib.hid ((cur_step1 (cur_step1 HB.out HB6.out) hb7).grown ha.grown (cur_step1 (cur_step1 HB.out HB6.out) hb7).size (fun b hb => Nat.le_trans (by omega) (own_base HO.out b hb)))
      have HS8 := Lib.hid (Nat.le_trans hbs ha.grown.size)
      have HO8 := Lib.hid (show OwnL entE 21 39 _ w8 (.slice (some ⟨g2, 0, none⟩) (M.length + 1) cap) (M ++ [⟨((k : Int) + 1) * 1000, x, s⟩]) from ha.one rfl)
      clear ha hk7 hb7 hbs
      go_wp2_with (fail)
      refine ⟨⟨k + 1, some ⟨g2, 0, none⟩, cap, by omega, rfl, by rw [HM.out, List.length_append]; rfl, ?_, HB8.out, by omega, by have := HS8.out; omega⟩, by show l.length - (k + 1) < l.length - k; omega⟩
      rw [HM.out]
      exact HO8.out
    · have HF := Lib.hid (show filE (l.take k) s = filE l s by rw [show k = l.length by omega, List.take_length])
      rw [HF.out] at HO ⊢
      clear HF
      obtain ⟨Ao, co, e0, hr, _⟩ := OwnL.rd entE_len HO.out
      injection e0 with e1 e2 e3
      subst e1 e3
      have HR := Lib.hid hr
      have HFL := Lib.hid (filE_len l s)
      clear hr HO
      obtain ⟨F, hF⟩ : ∃ F, filE l s = F := ⟨_, rfl⟩
      rw [hF] at HR HFL HSS ⊢
      have HFE := Lib.hid hF
      clear hF
      have hfl : F.length ≤ 400 := by rw [HFL.out]; exact hl
      go_wp2_with (fail)
      refine (chka_r F A c wr (by omega) HSS.out HR.out).mono ?_
      rintro e w2 ⟨rfl, hb2⟩
      have HR2 := Lib.hid (HR.out.to hb2)
      have HB2 := Lib.hid (cur_step1 HB.out hb2)
      clear hb2
      by_cases hc : chkA F = 0
      · rw [hc]
        have HC := Lib.hid (show filM F = F by unfold filM; rw [if_pos hc])
        have HV := Lib.hid hc
        clear hc
        go_wp2_with (fail)
        go_ret2
        rw [HFE.out, HC.out, HV.out]
        exact ⟨⟨A, c, rfl, HR2.out⟩, HB2.out⟩
      · obtain ⟨v, hv⟩ : ∃ v, chkA F = v := ⟨_, rfl⟩
        have HC := Lib.hid (show filM F = [] by unfold filM; rw [if_neg hc])
        rw [hv] at hc ⊢
        have gv : (v != 0) = true := by simpa using hc
        have HV := Lib.hid hv
        clear hc hv
        go_wp2_with (fail)
        go_ret2
        rw [HFE.out, HC.out, HV.out]
        exact ⟨⟨none, 0, rfl, Rd.nil_⟩, HB2.out⟩
end Go.Proofs.Ytimmlffgokgekaa
