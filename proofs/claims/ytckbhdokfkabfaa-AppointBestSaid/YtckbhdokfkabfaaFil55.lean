/-
  Chapter 55: filling all matches.
-/
import Derived.Test.YtckbhdokfkabfaaPla55
set_option linter.unusedSimpArgs false
set_option linter.unusedVariables false
namespace Go.Proofs.Ytckbhdokfkabfaa
open Go.RowKit
set_option maxRecDepth 100000
set_option maxHeartbeats 8000000
theorem Try.infoNat : (Try.prog.info? 3).map (fun i => (i.zero, i.size, i.bytes)) = some (some (.int .i64 0), 1, 8) := by kernel_rfl
theorem Try.infoBo : (Try.prog.info? 4).map (fun i => (i.zero, i.size, i.bytes)) = some (some (.bool false), 1, 1) := by kernel_rfl
theorem Try.nElem : ElemOf Try.prog nE 1 8 38 3 := .mk' Try.infoNat rfl Try.underlying38 (by decide) nE_len (fun x u hu => by simp [nE] at hu; subst hu; rfl)
theorem Try.iElem : ElemOf Try.prog iE 1 8 38 3 := .mk' Try.infoNat rfl Try.underlying38 (by decide) iE_len (fun x u hu => by simp [iE] at hu; subst hu; rfl)
theorem Try.boElem : ElemOf Try.prog boE 1 1 94 4 := .mk' Try.infoBo rfl Try.underlying94 (by decide) boE_len (fun x u hu => by simp [boE] at hu; subst hu; rfl)
/-- 'make([]T, n)', T of one cell: n times the zero, a row of the call's own. -/
theorem wpList_makeO {P : Program} {α : Type} {enc : α → List Value} (x : α) (w : World) {ops : Array Oper} {rest : List Oper} {o : Oper} {a : Act} {Q : Exit → Act → World → Prop}
    (hg : o.guard = none) (l c : Operand) (t : TypeId) (hop : o.op = Op.makeSlice t l c) (e : TypeId) (z : Value) (bytes : Nat) (hx : enc x = [z]) (h1 : P.underlying t = some (.slice e)) (hinfo : (P.info? e).map (fun i => (i.zero, i.size, i.bytes)) = some (some z, 1, bytes)) (hz : z.cells = #[z])
    (kl kc : IntKind) (n : Nat) (hl : a.eval l = .int kl n) (hc : a.eval c = .int kc n) (b2 : bytes * n ≤ 281474976710656) (b3 : n ≤ maxLen)
    (hK : ∀ w', OwnL enc 1 e w.heap.size w' (.slice (some ⟨w.heap.size, 0, none⟩) n n) (List.replicate n x) → Below w.heap.size w w' → w.heap.size < w'.heap.size → wpList P ops Q rest (a.put o.dst (.slice (some ⟨w.heap.size, 0, none⟩) n n)) w') :
    wpList P ops Q (o :: rest) a w := by
  obtain ⟨i, hi, h0, hs, hb⟩ := info_parts hinfo
  refine wpList_make_full (P := P) w hg l c t hop w.heap.size e i z 1 h1 hi h0 hs kl kc n n n hl hc rfl rfl (by rw [hb]; exact b2) b3 (Nat.le_refl _) fun w' ho hgr => ?_
  rw [hz, Nat.mul_one, toList_madeCells_one] at ho
  have hfl : (List.replicate n x).flatMap enc = List.replicate n z := by
    have : ∀ k : Nat, (List.replicate k x).flatMap enc = List.replicate k z := by
      intro k
      induction k with
      | zero => rfl
      | succ k ih => rw [List.replicate_succ, List.flatMap_cons, ih, hx]; rfl
    exact this n
  refine hK w' ?_ ((Below.refl _ _).grown hgr (Nat.le_refl _) (by simp)) (own_range ho _ rfl).2
  unfold OwnL
  rw [hfl, List.length_replicate]
  exact ho
structure FiR (B : Nat) (x : Mx) (rows : List Rw) (need : List Nat) (w0 : World) (us : List Int) (w : World) : Prop where
  mat : MatS B x rows need us w
  far : Far (adB x.U) w0 w
  val : Val (mayR rows) x.nm us
theorem FiR.to {B : Nat} {x : Mx} {rows : List Rw} {need : List Nat} {w0 w w' : World} {us : List Int} (h : FiR B x rows need w0 us w) (hb : Below w.heap.size w w') : FiR B x rows need w0 us w' := ⟨h.mat.to hb, h.far.trans (Far.of (bs := []) hb) (fun y hy => by simp at hy), h.val⟩
theorem adB_lt {B : Nat} {x : Mx} {rows : List Rw} {need : List Nat} {us : List Int} {w : World} (h : MatS B x rows need us w) : ∀ b ∈ adB x.U, b ∈ x.bs rows := fun b hb => by simp [Mx.bs, hb]
theorem fill_p (B : Nat) (x : Mx) (rows : List Rw) (need : List Nat) (us : List Int) (w : World) (hnu : x.nu ≤ 1000) (hnm : x.nm ≤ 1000) (hnd : ∀ k ∈ need, k ≤ 1000) (h : MatS B x rows need us w) (hv : Val (mayR rows) x.nm us) :
    Calls Try.prog 33 #[.pointer (some ⟨x.bX, 0, none⟩)] w fun e w' => ∃ A c, e = .returned (.slice A (fillF (mayR rows) x.nu need 0 us []).1.length c) ∧ OwnL nE 1 3 w.heap.size w' (.slice A (fillF (mayR rows) x.nu need 0 us []).1.length c) (fillF (mayR rows) x.nu need 0 us []).1 ∧ FiR B x rows need w (fillF (mayR rows) x.nu need 0 us []).2 w' := by
  obtain ⟨R, hR⟩ : ∃ R, fillF (mayR rows) x.nu need 0 us [] = R := ⟨_, rfl⟩
  rw [hR]
  have HR := Lib.hid (show fillF (mayR rows) x.nu (need.drop 0) 0 us [] = R from hR)
  have H := Lib.hid (show FiR B x rows need w us w from ⟨h, Far.refl _ _, hv⟩)
  have HND := Lib.hid hnd
  have HXL := Lib.hid (show ∀ b ∈ x.bs rows, b < w.heap.size from fun b hb => (h.inB b hb).2)
  have HUL := Lib.hid (show ∀ b ∈ adB x.U, b < w.heap.size from fun b hb => (h.inB b (adB_lt h b hb)).2)
  obtain ⟨c0, c1, c2, cl⟩ := h.cells
  clear h hv hR hnd c0 c2
  go_enter Try.func33, Try.ntmps33
  go_wp2_with (fail)
  go_loopw [3, 11] (fun v iv wr => ∃ (m : Nat) (us1 : List Int) (lk : List Nat) (A : Option Addr) (c : Nat), m ≤ x.nm ∧ v = .slice A lk.length c ∧ iv = .int .i64 m ∧ fillF (mayR rows) x.nu (need.drop m) m us1 lk = R ∧ OwnL nE 1 3 w.heap.size wr (.slice A lk.length c) lk ∧ lk.length ≤ m ∧ FiR B x rows need w us1 wr) (fun _ i _ => x.nm - (intOf i).toNat)
  case atStart => exact ⟨0, us, [], none, 0, by omega, rfl, rfl, HR.out, World.ownsRow_nil _ _ _ _, by decide, H.out⟩
  case round =>
    obtain ⟨m, us1, lk, A, c, hm, rfl, rfl, hR1, ho, hlk, hI⟩ := hrel
    have HR1 := Lib.hid hR1
    have HO := Lib.hid ho
    have HI := Lib.hid hI
    clear hR1 ho hI
    by_cases hml : m < x.nm
    · obtain ⟨k, hk⟩ : ∃ k, need[m]? = some k := ⟨_, List.getElem?_eq_getElem (by rw [HI.out.mat.ln]; exact hml)⟩
      obtain ⟨gN, hgN, cN, -, hgNl, -, -⟩ := own1_at nE_len HI.out.mat.hneed hk rfl
      rw [hgN]
      have HGN := Lib.hid hgN
      have hk1000 : k ≤ 1000 := HND.out k (List.mem_of_getElem? hk)
      have HFM := Lib.hid (fillM_ok (may := mayR rows) (nm := x.nm) (n := x.nu) hml k us1 HI.out.val (by rw [HI.out.mat.lu]; exact Nat.le_refl _))
      obtain ⟨Q, hQ⟩ : ∃ Q, fillM (mayR rows) x.nu m k us1 = Q := ⟨_, rfl⟩
      have HR2 := Lib.hid (show fillF (mayR rows) x.nu (need.drop (m + 1)) (m + 1) Q.2 (if Q.1 = true then lk ++ [m] else lk) = R by
        have e := HR1.out
        have hkk := (List.getElem?_eq_some_iff.1 hk)
        rw [List.drop_eq_getElem_cons hkk.1, hkk.2] at e
        unfold fillF at e
        rwa [hQ] at e)
      have HQ := Lib.hid (show fillM (mayR rows) x.nu m (k - 0) us1 = Q from hQ)
      rw [hQ] at HFM
      clear hk hgN HR1 hQ
      have hm1000 : m < 1000 := by omega
      go_wp2_with (fail)
      go_loopw [3, 17] (fun v iv wr2 => ∃ (j : Nat) (us2 : List Int), j ≤ k ∧ v = .slice A lk.length c ∧ iv = .int .i64 j ∧ fillM (mayR rows) x.nu m (k - j) us2 = Q ∧ OwnL nE 1 3 w.heap.size wr2 (.slice A lk.length c) lk ∧ FiR B x rows need w us2 wr2) (fun _ i _ => k - (intOf i).toNat)
      case atStart => exact ⟨0, us1, by omega, rfl, rfl, HQ.out, HO.out, HI.out⟩
      case round =>
        clear HO HI cN
        obtain ⟨j, us2, hj, rfl, rfl, hQ2, ho, hI⟩ := hrel
        have HQ2 := Lib.hid hQ2
        have HO := Lib.hid ho
        have HI := Lib.hid hI
        clear hQ2 ho hI
        by_cases hjl : j < k
        · obtain ⟨c0, c1', c2, cl'⟩ := HI.out.mat.cells
          have HQ3 := Lib.hid (show (if (placeF (mayR rows) (x.nu + 1) m us2 (List.replicate x.nu false)).1 = true then fillM (mayR rows) x.nu m (k - (j + 1)) (placeF (mayR rows) (x.nu + 1) m us2 (List.replicate x.nu false)).2.1 else (true, (placeF (mayR rows) (x.nu + 1) m us2 (List.replicate x.nu false)).2.1)) = Q by
            have e := HQ2.out
            rw [show k - j = (k - (j + 1)) + 1 by omega] at e
            unfold fillM at e
            exact e)
          obtain ⟨P, hP⟩ : ∃ P, placeF (mayR rows) (x.nu + 1) m us2 (List.replicate x.nu false) = P := ⟨_, rfl⟩
          rw [hP] at HQ3
          have HP := Lib.hid hP
          have HWS := Lib.hid HI.out.far.size
          obtain ⟨wq, hwq⟩ : ∃ q, q = wr.heap.size := ⟨_, rfl⟩
          clear hP c0 c1'
          go_wp2_with (refine wpList_makeO (enc := boE) false _ rfl _ _ _ rfl 4 (.bool false) 1 rfl (by kernel_rfl) (by kernel_rfl) (by kernel_rfl) .i64 .i64 x.nu (by rfl) (by rfl) (by omega) (by unfold maxLen; omega) ?_; intro w7 hs7 hb7 hl7; have HS7 := Lib.hid hs7; have HB7 := Lib.hid hb7; clear hs7 hb7)
          have hS : ∀ b ∈ adB (some (⟨wr.heap.size, 0, none⟩ : Addr)), b ∉ x.bs rows := fun b hb e => by
            simp [adB] at hb
            have := (HI.out.mat.inB b e).2
            omega
          have hBw : B ≤ wr.heap.size := by have h1 := HI.out.mat.ge; have h2 := HI.out.mat.blk.lt; omega
          have hplace := place_p B x rows need (some ⟨wr.heap.size, 0, none⟩) x.nu hS hnu hnm (x.nu + 1) m us2 (List.replicate x.nu false) w7 hml (by simp) ⟨HI.out.mat.to HB7.out, own_mono HS7.out hBw, Far.refl _ _, by simp, HI.out.val⟩
          rw [HP.out] at hplace
          have HPL := Lib.hid hplace
          obtain ⟨p1, p2, p3⟩ := P
          dsimp only at HPL HQ3
          clear hplace hS HP
          refine HPL.out.mono ?_
          rintro e w8 ⟨rfl, hI8⟩
          have hf8 : Far (adB x.U) wr w8 := ((Far.of (bs := adB x.U) HB7.out).trans hI8.far (fun y hy => by
            rcases List.mem_append.1 hy with h1 | h1
            · exact Or.inl h1
            · simp [adB] at h1; exact Or.inr (by omega)))
          have HI8 := Lib.hid (show FiR B x rows need w p2 w8 from ⟨hI8.mat, HI.out.far.trans hf8 (fun y hy => Or.inl hy), hI8.val⟩)
          have HO8 := Lib.hid (own_far HO.out hf8 (fun b hb e => by have h1 := own_in HO.out b hb; have h2 := HUL.out b e; omega))
          clear hI8 hf8 HI HO HPL HS7 HB7
          cases p1
          · have HQE := Lib.hid (show Q = (true, p2) from HQ3.out.symm)
            obtain ⟨W9, hW9⟩ : ∃ y, w8.alloc (.cells (nE m).toArray 3) = y := ⟨_, rfl⟩
            have HB9 := Lib.hid (show Below w8.heap.size w8 W9 by rw [← hW9]; exact cur_new _ _)
            have HK9 := Lib.hid (show W9.heap[w8.heap.size]? = some (.cells (nE m).toArray 3 (0, 0)) by rw [← hW9]; exact heap_alloc_new _ _)
            have S9 := Lib.hid hW9
            have HS9 := Lib.hid (show w.heap.size ≤ W9.heap.size from Nat.le_trans HI8.out.far.size HB9.out.size)
            clear hW9
            go_wp2_with (at_builtin; change wpList _ _ _ _ _ (w8.alloc (.cells (nE m).toArray 3)); rw [S9.out]; refine wpList_app1 Try.nElem W9 rfl (.tmp 29) (.tmp 31) rfl w.heap.size A c lk (by rfl) (own_below HO8.out HB9.out (Nat.le_refl _)) m w8.heap.size 1 (by rfl) HK9.out (by unfold maxLen; omega) (by omega) HS9.out ?_; intro g9 cap w9 ha; have HA9 := Lib.hid ha; clear ha)
            have HOF := Lib.hid (show OwnL nE 1 3 w.heap.size w9 (.slice (some ⟨g9, 0, none⟩) (lk.length + 1) cap) (lk ++ [m]) from HA9.out.one rfl)
            have HIF := Lib.hid (show FiR B x rows need w p2 w9 from by
              have h1 := HI8.out.to HB9.out
              have h2 : Far (adB A) W9 w9 := Far.grown HA9.out.grown (fun b hb => adB_own hb)
              exact ⟨h1.mat.far h2 (fun b hb e => by have h3 := HXL.out b hb; have h4 := own_in HO8.out b e; omega), h1.far.trans h2 (fun y hy => Or.inr (by have h4 := own_in HO8.out y hy; omega)), h1.val⟩)
            have e := HQE.out
            subst e
            have HRF := Lib.hid (show fillF (mayR rows) x.nu (need.drop (m + 1)) (m + 1) p2 (lk ++ [m]) = R from HR2.out)
            clear HR2
            go_wp2_with (fail)
            refine ⟨⟨m + 1, p2, lk ++ [m], some ⟨g9, 0, none⟩, cap, by omega, by rw [List.length_append]; rfl, by simp, HRF.out, by rw [List.length_append]; exact HOF.out, by simp; omega, HIF.out⟩, by simp [intOf]; omega⟩
          · have HQE := Lib.hid (show fillM (mayR rows) x.nu m (k - (j + 1)) p2 = Q from HQ3.out)
            go_wp2_with (fail)
            go_roundw
            case rel => exact ⟨j + 1, p2, by omega, rfl, by simp, HQE.out, HO8.out, HI8.out⟩
            case measure => simp [intOf]; omega
        · have HQE := Lib.hid (show Q = (false, us2) by
            have e := HQ2.out
            rw [show k - j = 0 by omega] at e
            exact e.symm)
          have e := HQE.out
          subst e
          have HRF := Lib.hid (show fillF (mayR rows) x.nu (need.drop (m + 1)) (m + 1) us2 lk = R from HR2.out)
          clear HR2
          go_wp2_with (fail)
          refine ⟨⟨m + 1, us2, lk, A, c, by omega, rfl, by simp, HRF.out, HO.out, by omega, HI.out⟩, by simp [intOf]; omega⟩
    · have HE := Lib.hid (show R = (lk, us1) by
        have e := HR1.out
        rw [List.drop_of_length_le (by rw [HI.out.mat.ln]; omega)] at e
        exact e.symm)
      have e := HE.out
      subst e
      go_wp2_with (fail)
      go_ret
      exact ⟨A, c, rfl, HO.out, HI.out⟩
end Go.Proofs.Ytckbhdokfkabfaa
