/-
  Chapter 55: the matches that can be reached from those that lack an umpire: the walk.
-/
import Derived.Test.YtckbhdokfkabfaaQue55
set_option linter.unusedSimpArgs false
set_option linter.unusedVariables false
namespace Go.Proofs.Ytckbhdokfkabfaa
open Go.RowKit
set_option maxRecDepth 100000
set_option maxHeartbeats 8000000
def isF : Option Value → Bool
  | some (.bool false) => true
  | _ => false
def cntF (w : World) (bi nm : Nat) : Nat := (List.range nm).countP fun j => isF (w.cell? ⟨bi, j, none⟩)
def sliceN : Value → Nat
  | .slice _ n _ => n
  | _ => 0
theorem cntF_own {B e c bi nm : Nat} {w : World} {inn : List Bool} (h : OwnL boE 1 e B w (.slice (some ⟨bi, 0, none⟩) nm c) inn) (hl : inn.length = nm) : cntF w bi nm = inn.count false := by
  have h1 : ∀ j, j < nm → isF (w.cell? ⟨bi, j, none⟩) = (inn[j]?.getD true == false) := fun j hj => by
    obtain ⟨b, hb⟩ : ∃ b, inn[j]? = some b := ⟨_, List.getElem?_eq_getElem (by omega)⟩
    obtain ⟨g, hg, hc, _⟩ := own1_at boE_len h hb rfl
    injection hg with hg
    injection hg with hg _ _
    subst hg
    rw [hc, hb]
    cases b <;> rfl
  unfold cntF
  rw [List.countP_congr (q := fun j => inn[j]?.getD true == false) (fun j hj => by rw [h1 j (by simpa using hj)])]
  subst hl
  clear h h1
  have key : ∀ l : List Bool, (List.range l.length).map (fun j => l[j]?.getD true) = l := fun l => by
    apply List.ext_getElem?
    intro i
    rw [List.getElem?_map]
    by_cases hi : i < l.length
    · rw [List.getElem?_range hi, List.getElem?_eq_getElem hi]; simp [hi]
    · rw [List.getElem?_eq_none (by simp; omega), List.getElem?_eq_none (by omega)]; rfl
  conv => rhs; rw [← key inn]
  rw [List.count, List.countP_map]
  rfl
structure LkI (w0 : World) (bi nm : Nat) (A : Option Addr) (c : Nat) (inn : List Bool) (q : List Nat) (w : World) : Prop where
  below : Below w0.heap.size w0 w
  hin : OwnL boE 1 4 w0.heap.size w (.slice (some ⟨bi, 0, none⟩) nm nm) inn
  qu : QuL w0.heap.size w A c q
  ne : ∀ b ∈ adB A, b ≠ bi
  il : inn.length = nm
  ge : w0.heap.size ≤ bi
theorem LkI.set {w0 w : World} {bi nm : Nat} {A : Option Addr} {c : Nat} {inn : List Bool} {q : List Nat} (h : LkI w0 bi nm A c inn q w) (k : Nat) : LkI w0 bi nm A c (inn.set k true) q (w.setCell ⟨bi, k, none⟩ (.bool true)) := by
  have hF := Far.cell w bi k (.bool true)
  exact ⟨h.below.trans (hF.below h.below.size (fun y hy => by simp at hy; subst hy; exact h.ge)), own1_set boE_len h.hin rfl, h.qu.far hF (fun b hb e => h.ne b hb (by simpa using e)), h.ne, by rw [List.length_set]; exact h.il, h.ge⟩
def outI (inn : List Bool) (k : Nat) : List Nat := (List.range k).filter (bG inn)
theorem outI_next (inn : List Bool) (k : Nat) : outI inn (k + 1) = outI inn k ++ if bG inn k = true then [k] else [] := by
  unfold outI
  rw [List.range_succ, List.filter_append]
  congr 1
  cases hb : bG inn k <;> simp [hb]
theorem outI_len (inn : List Bool) (k : Nat) : (outI inn k).length ≤ k := by
  unfold outI
  have := List.length_filter_le (bG inn) (List.range k)
  simpa using this
theorem lacking_p (B : Nat) (x : Mx) (rows : List Rw) (need : List Nat) (us : List Int) (lk : List Nat) (A : Option Addr) (c : Nat) (w : World) (hnu : x.nu ≤ 1000) (hnm : x.nm ≤ 1000) (h : MatS B x rows need us w) (hv : Val (mayR rows) x.nm us)
    (hlk : ∀ y ∈ lk, y < x.nm) (hll : lk.length ≤ 1000) (hrd : Rd nE 1 w w.heap.size A lk) :
    Calls Try.prog 34 #[.pointer (some ⟨x.bX, 0, none⟩), .slice A lk.length c] w fun e w' => (∃ A' c', e = .returned (.slice A' (outI (lackF (mayR rows) us x.nm lk) x.nm).length c') ∧ OwnL nE 1 3 w.heap.size w' (.slice A' (outI (lackF (mayR rows) us x.nm lk) x.nm).length c') (outI (lackF (mayR rows) us x.nm lk) x.nm)) ∧ Below w.heap.size w w' := by
  obtain ⟨FIN, hfin⟩ : ∃ F, lackF (mayR rows) us x.nm lk = F := ⟨_, rfl⟩
  rw [hfin]
  have HFIN := Lib.hid (show bfsF (mayR rows) us (x.nm + lk.length + 1) (innF (List.replicate x.nm false) lk) lk = FIN from hfin)
  have H := Lib.hid h
  have HV := Lib.hid hv
  have HRD := Lib.hid hrd
  have HLK := Lib.hid hlk
  have HXN := Lib.hid (show x.nu = us.length from h.lu.symm)
  obtain ⟨c0, c1, c2, cl⟩ := h.cells
  clear h hv hrd hlk hfin c1 c2
  go_enter Try.func34, Try.ntmps34
  go_wp2_with (refine wpList_makeO (enc := boE) false _ rfl _ _ _ rfl 4 (.bool false) 1 rfl (by kernel_rfl) (by kernel_rfl) (by kernel_rfl) .i64 .i64 x.nm (by rfl) (by rfl) (by omega) (by unfold maxLen; omega) ?_; intro w1 hs1 hb1 hl1; have HS1 := Lib.hid hs1; have HB1 := Lib.hid hb1; clear hs1 hb1)
  refine (clone_i Try.nElem lk A c w1 (by omega) (HRD.out.to HB1.out)).mono ?_
  rintro e w2 ⟨⟨A2, c2, rfl, ho2⟩, hb2⟩
  have HI2 := Lib.hid (show LkI w w.heap.size x.nm A2 c2 (List.replicate x.nm false) lk w2 from ⟨cur_step1 HB1.out hb2, own_below HS1.out hb2 (Nat.le_refl _), QuL.of (own_mono ho2 HB1.out.size), fun b hb e => by have := (own_in ho2 b hb).1; omega, by simp, Nat.le_refl _⟩)
  have HR2 := Lib.hid ((HRD.out.to HB1.out).to hb2)
  obtain ⟨bi, hbi⟩ : ∃ y, w.heap.size = y := ⟨_, rfl⟩
  have HBI := Lib.hid hbi
  rw [hbi] at HI2 ⊢
  have HL2 := Lib.hid (show bi < w2.heap.size by rw [← hbi]; have := hb2.size; omega)
  clear HS1 HB1 ho2 hb2 hbi hl1
  go_wp2_with (fail)
  go_loopw [25] (fun iv wr => ∃ j : Nat, j ≤ lk.length ∧ iv = .int .i64 j ∧ LkI w bi x.nm A2 c2 (innF (List.replicate x.nm false) (lk.take j)) lk wr ∧ Rd nE 1 wr wr.heap.size A lk) (fun i _ => lk.length - (intOf i).toNat)
  case atStart => exact ⟨0, by omega, rfl, HI2.out, HR2.out⟩
  case round =>
    clear HI2 HR2
    obtain ⟨j, hj, rfl, hI, hR⟩ := hrel
    have HI := Lib.hid hI
    have HR := Lib.hid hR
    clear hI hR
    by_cases hjl : j < lk.length
    · obtain ⟨y, hy⟩ : ∃ y, lk[j]? = some y := ⟨_, List.getElem?_eq_getElem hjl⟩
      obtain ⟨b3, off3, hA3, hbb3, hcy⟩ := HR.out j y hy
      have cy : wr.cell? ⟨b3, off3 + j, none⟩ = some (.int .i64 (y : Int)) := by simpa using hcy 0 _ rfl
      have hyn : y < x.nm := HLK.out y (List.mem_of_getElem? hy)
      obtain ⟨bv, hbv⟩ : ∃ bv, (innF (List.replicate x.nm false) (lk.take j))[y]? = some bv := ⟨_, List.getElem?_eq_getElem (by rw [HI.out.il]; exact hyn)⟩
      obtain ⟨g4, hg4, cI, fI, hIl, -, -⟩ := own1_at boE_len HI.out.hin hbv rfl
      injection hg4 with hg4
      injection hg4 with hg4 _ _
      subst hg4
      have HNX := Lib.hid (show innF (List.replicate x.nm false) (lk.take (j + 1)) = (innF (List.replicate x.nm false) (lk.take j)).set y true by
        rw [List.take_add_one, hy]; unfold innF; rw [List.foldl_append]; rfl)
      have HIN := Lib.hid (HI.out.set y)
      have HRN := Lib.hid (rd_far HR.out (Far.cell wr bi y (.bool true)) (fun b hb e => by
        have h1 := HBI.out
        simp at e
        rw [hA3] at hb
        simp [adB] at hb
        obtain ⟨b5, off5, e5, hl5, _⟩ := HRD.out j y hy
        rw [hA3] at e5
        injection e5 with e5
        injection e5 with e5 _ _
        omega))
      rw [hA3]
      have HA3 := Lib.hid hA3
      have hy1000 : y < 1000 := by omega
      clear hcy hy hbv hA3
      go_wp2_with (fail)
      go_roundw
      case rel => exact ⟨j + 1, by omega, by simp, by rw [HNX.out]; exact HIN.out, by rw [← HA3.out]; exact HRN.out⟩
      case measure => simp [intOf]; omega
    · have HI3 := Lib.hid (show LkI w bi x.nm A2 c2 (innF (List.replicate x.nm false) lk) lk wr by
        have := HI.out
        rwa [List.take_of_length_le (by omega)] at this)
      have HCT := Lib.hid (show (innF (List.replicate x.nm false) lk).count false ≤ x.nm by
        have := List.count_le_length (a := false) (l := innF (List.replicate x.nm false) lk)
        rw [HI3.out.il] at this
        exact this)
      clear HI HR
      go_wp2_with (fail)
      go_loopw [6] (fun v wr2 => ∃ (f : Nat) (A3 : Option Addr) (c3 : Nat) (inn : List Bool) (q : List Nat), v = .slice A3 q.length c3 ∧ LkI w bi x.nm A3 c3 inn q wr2 ∧ bfsF (mayR rows) us f inn q = FIN ∧ inn.count false + q.length < f ∧ f ≤ 3000 ∧ ∀ y ∈ q, y < x.nm) (fun v wr2 => cntF wr2 bi x.nm + sliceN v)
      case atStart => exact ⟨x.nm + lk.length + 1, A2, c2, _, lk, rfl, HI3.out, HFIN.out, by have := HCT.out; omega, by omega, HLK.out⟩
      case round =>
        clear HI3 HCT HFIN
        obtain ⟨f, A3, c3, inn, q, rfl, hI, hF, hM, hf3, hQ⟩ := hrel
        have HI := Lib.hid hI
        have HF := Lib.hid hF
        have HM := Lib.hid hM
        have HQ := Lib.hid hQ
        clear hI hF hM hQ
        cases q with
        | nil =>
          have HE := Lib.hid (show inn = FIN by
            have e := HF.out
            cases f with
            | zero => exact e
            | succ f => exact e)
          have e := HE.out
          subst e
          have hin0 := Lib.hid HI.out.hin
          go_wp2_with (fail)
          go_loopw [13, 83] (fun v iv wr3 => ∃ (k : Nat) (A4 : Option Addr) (c4 : Nat), k ≤ x.nm ∧ v = .slice A4 (outI inn k).length c4 ∧ iv = .int .i64 k ∧ OwnL boE 1 4 w.heap.size wr3 (.slice (some ⟨bi, 0, none⟩) x.nm x.nm) inn ∧ OwnL nE 1 3 w.heap.size wr3 (.slice A4 (outI inn k).length c4) (outI inn k) ∧ (∀ b ∈ adB A4, b ≠ bi) ∧ Below w.heap.size w wr3) (fun _ i _ => x.nm - (intOf i).toNat)
          case atStart => exact ⟨0, none, 0, by omega, rfl, rfl, hin0.out, World.ownsRow_nil _ _ _ _, (fun b hb => by simp [adB] at hb), HI.out.below⟩
          case round =>
            obtain ⟨k, A4, c4, hk, rfl, rfl, hin, ho, hne, hb⟩ := hrel
            have HIN := Lib.hid hin
            have HO := Lib.hid ho
            have HNE := Lib.hid hne
            have HB := Lib.hid hb
            have HOL := Lib.hid (outI_len inn k)
            have HON := Lib.hid (outI_next inn k)
            obtain ⟨O, hO⟩ : ∃ O, outI inn k = O := ⟨_, rfl⟩
            rw [hO] at HO HOL HON ⊢
            have HOE := Lib.hid hO
            clear hin ho hne hb hO
            by_cases hkl : k < x.nm
            · obtain ⟨bv, hbv⟩ : ∃ bv, inn[k]? = some bv := ⟨_, List.getElem?_eq_getElem (by rw [HI.out.il]; exact hkl)⟩
              obtain ⟨g4, hg4, cI, fI, hIl, -, -⟩ := own1_at boE_len HIN.out hbv rfl
              injection hg4 with hg4
              injection hg4 with hg4 _ _
              subst hg4
              have HBV := Lib.hid (show bG inn k = bv from bG_at hbv)
              have hk1000 : k < 1000 := by omega
              clear hbv
              cases bv
              · have HN := Lib.hid (show outI inn (k + 1) = O by rw [HON.out, HBV.out]; simp)
                go_wp2_with (fail)
                go_roundw
                case rel => exact ⟨k + 1, A4, c4, by omega, by rw [HN.out], by simp, HIN.out, by rw [HN.out]; exact HO.out, HNE.out, HB.out⟩
                case measure => simp [intOf]; omega
              · have HN := Lib.hid (show outI inn (k + 1) = O ++ [k] by rw [HON.out, HBV.out]; simp)
                have hOl : O.length ≤ 1000 := by have := HOL.out; omega
                obtain ⟨W9, hW9⟩ : ∃ y, wr.alloc (.cells (nE k).toArray 3) = y := ⟨_, rfl⟩
                have HB9 := Lib.hid (show Below wr.heap.size wr W9 by rw [← hW9]; exact cur_new _ _)
                have HK9 := Lib.hid (show W9.heap[wr.heap.size]? = some (.cells (nE k).toArray 3 (0, 0)) by rw [← hW9]; exact heap_alloc_new _ _)
                have S9 := Lib.hid hW9
                have HS9 := Lib.hid (show w.heap.size ≤ W9.heap.size from Nat.le_trans HB.out.size HB9.out.size)
                clear hW9
                go_upto_region 24 with (fail)
                refine wp_region_lit ?_
                (refine wpList_step (fun K hK => ?_); go_simp; refine hK _ _ ?_; clear hK K)
                (refine wpList_step (fun K hK => ?_); go_simp; refine hK _ _ ?_; clear hK K)
                (refine wpList_step (fun K hK => ?_); go_simp; refine hK _ _ ?_; clear hK K)
                change wpList _ _ _ _ _ (wr.alloc (.cells (nE k).toArray 3))
                rw [S9.out]
                refine wpList_app1 Try.nElem W9 rfl (.tmp 90) (.tmp 92) rfl w.heap.size A4 c4 O (by rfl) (own_below HO.out HB9.out (Nat.le_refl _)) k wr.heap.size 1 (by rfl) HK9.out (by unfold maxLen; omega) (by omega) HS9.out ?_
                intro g9 cap w9 ha
                have HA9 := Lib.hid ha
                clear ha
                have HOF := Lib.hid (show OwnL nE 1 3 w.heap.size w9 (.slice (some ⟨g9, 0, none⟩) (O.length + 1) cap) (O ++ [k]) from HA9.out.one rfl)
                have HF2 := Lib.hid (show Far (adB A4) W9 w9 from Far.grown HA9.out.grown (fun b hb => adB_own hb))
                have HINF := Lib.hid (own_far (own_below HIN.out HB9.out (Nat.le_refl _)) HF2.out (fun b hb e => by simp [adB] at hb; exact HNE.out b e hb))
                have HNEF := Lib.hid (show ∀ b ∈ adB (some (⟨g9, 0, none⟩ : Addr)), b ≠ bi from fun b hb e => by
                  simp [adB] at hb
                  rcases HA9.out.at_ with h1 | h1
                  · exact HNE.out b (by rw [hb]; exact adB_own h1) e
                  · have := HB9.out.size; omega)
                have HBF := Lib.hid ((cur_step1 HB.out HB9.out).trans (HF2.out.below (cur_step1 HB.out HB9.out).size (fun y hy => (own_in HO.out y hy).1)))
                clear HA9
                go_wp2_with (fail)
                go_roundw
                case rel => exact ⟨k + 1, some ⟨g9, 0, none⟩, cap, by omega, by rw [HN.out, List.length_append]; rfl, by simp, HINF.out, by rw [HN.out, List.length_append]; exact HOF.out, HNEF.out, HBF.out⟩
                case measure => simp [intOf]; omega
            · have hke : k = x.nm := by omega
              subst hke
              have e := HOE.out
              subst e
              go_wp2_with (fail)
              go_ret
              exact ⟨⟨A4, c4, rfl, HO.out⟩, HB.out⟩
        | cons m q =>
          obtain ⟨g3, off3, hA3, cq, hg3l, hc3, hqt⟩ := HI.out.qu.head
          have hmn : m < x.nm := HQ.out m (by simp)
          have hqln : q.length < 3000 := by have := HM.out; simp at this; omega
          obtain ⟨f', hf'⟩ : ∃ f', f = f' + 1 := ⟨f - 1, by have := HM.out; omega⟩
          have HF2 := Lib.hid (show bfsF (mayR rows) us f' (stepF us (rG (mayR rows) m) 0 inn q).1 (stepF us (rG (mayR rows) m) 0 inn q).2 = FIN by
            have e := HF.out
            rw [hf'] at e
            exact e)
          have HM2 := Lib.hid (show inn.count false + q.length < f' by have := HM.out; simp at this; omega)
          have HCN := Lib.hid (cntF_own HI.out.hin HI.out.il)
          have hf3' : f' ≤ 3000 := by omega
          have HMM := Lib.hid (H.out.to HI.out.below)
          obtain ⟨r, hr⟩ : ∃ r, rows[m]? = some r := ⟨_, List.getElem?_eq_getElem (by rw [HMM.out.lr]; exact hmn)⟩
          obtain ⟨gR, hgR, cR, -, hgRl, -, -⟩ := own1_at (rwE_len x.nu) HMM.out.outer hr rfl
          obtain ⟨hrow, hrl⟩ := HMM.out.row r (List.mem_of_getElem? hr)
          have HRL := Lib.hid hrl
          rw [rG_may hr] at HF2
          have HMAY := Lib.hid (List.mem_of_getElem? hr)
          obtain ⟨d0, -, -, dl⟩ := HMM.out.cells
          rw [hgR] at d0
          obtain ⟨S, hS⟩ : ∃ S, stepF us r.r 0 inn q = S := ⟨_, rfl⟩
          rw [hS] at HF2
          have HS := Lib.hid (show stepF us (r.r.drop 0) 0 inn q = S from hS)
          have hIq : ∀ (A' : Option Addr) (c' : Nat), QuL w.heap.size wr A' c' q → adB A' = adB A3 → LkI w bi x.nm A' c' inn q wr := fun A' c' hq he => ⟨HI.out.below, HI.out.hin, hq, fun b hb e => HI.out.ne b (by rw [← he]; exact hb) e, HI.out.il, HI.out.ge⟩
          have HIQ := Lib.hid hIq
          have HQT := Lib.hid hqt
          have HG3 := Lib.hid (show w.heap.size ≤ g3 from (HI.out.qu.inB g3 (by rw [hA3]; simp [adB])).1)
          have HA3 := Lib.hid hA3
          rw [hA3]
          clear hIq hf' HF HM hqt hrow hr hrl hS hgR hA3
          have hm1000 : m < 1000 := by omega
          have HQ2 := Lib.hid (show ∀ y ∈ q, y < x.nm from fun y hy => HQ.out y (by simp [hy]))
          clear HI HQ
          by_cases hc1 : c3 = 1
          · have HI2 := Lib.hid (HIQ.out (some ⟨g3, off3, none⟩) 0 ⟨by have := HQT.out.le; omega, Nat.zero_le _, (fun e => by cases e), fun a e => by
              injection e with e
              subst e
              refine ⟨g3, off3, rfl, HG3.out, hg3l, (fun j hj => by omega), fun j y hy => ?_⟩
              have h1 := (List.getElem?_eq_some_iff.1 hy).1
              have h2 := HQT.out.le
              omega⟩ (by rw [HA3.out]))
            subst hc1
            clear HIQ HQT HG3 HA3
            go_wp2_with (fail)
            go_loopw [6, 49] (fun v iv wr3 => ∃ (u : Nat) (A5 : Option Addr) (c5 : Nat) (inn1 : List Bool) (q1 : List Nat), u ≤ x.nu ∧ v = .slice A5 q1.length c5 ∧ iv = .int .i64 u ∧ stepF us (r.r.drop u) u inn1 q1 = S ∧ LkI w bi x.nm A5 c5 inn1 q1 wr3 ∧ (∀ y ∈ q1, y < x.nm) ∧ inn1.count false + q1.length = inn.count false + q.length) (fun _ i _ => x.nu - (intOf i).toNat)
            case atStart => exact ⟨0, some ⟨g3, off3, none⟩, 0, inn, q, by omega, rfl, rfl, HS.out, HI2.out, HQ2.out, rfl⟩
            case round =>
              clear HI2 HS HQ2
              obtain ⟨u, A5, c5, inn1, q1, hu, rfl, rfl, hS, hI, hQ, hms⟩ := hrel
              have HS := Lib.hid hS
              have HI := Lib.hid hI
              have HQ := Lib.hid hQ
              have HMS := Lib.hid hms
              clear hS hI hQ hms
              have HM3 := Lib.hid (H.out.to HI.out.below)
              by_cases hul : u < x.nu
              · obtain ⟨b, hb⟩ : ∃ b, r.r[u]? = some b := ⟨_, List.getElem?_eq_getElem (by rw [HRL.out]; exact hul)⟩
                obtain ⟨gr, hgr, cr, -, hgrl, -, -⟩ := own1_at boE_len (HM3.out.row r HMAY.out).1 hb rfl
                obtain ⟨gU, hgU, cU, -, hgUl, -, -⟩ := own1_at iE_len HM3.out.hused (uG_at (by rw [HM3.out.lu]; exact hul)) rfl
                obtain ⟨-, -, d2, dl2⟩ := HM3.out.cells
                rw [hgU] at d2
                have HSS := Lib.hid (show stepF us (b :: r.r.drop (u + 1)) u inn1 q1 = S by
                  have e := HS.out
                  rwa [List.drop_eq_getElem_cons (by rw [HRL.out]; exact hul), show r.r[u]'(by rw [HRL.out]; exact hul) = b from Option.some.inj ((List.getElem?_eq_getElem _).symm.trans hb)] at e)
                have hz := HV.out u
                have hu1000 : u < 1000 := by omega
                obtain ⟨z, hzz⟩ : ∃ z, uG us u = z := ⟨_, rfl⟩
                rw [hzz] at cU hz
                have HZ := Lib.hid hzz
                have HGr := Lib.hid hgr
                rw [hgr]
                clear hb hgr hgU hzz HS
                have skip : ∀ (h : ¬ (b = true ∧ 0 ≤ z ∧ bG inn1 z.toNat = false)), stepF us (r.r.drop (u + 1)) (u + 1) inn1 q1 = S := fun h => by
                  have e := HSS.out
                  unfold stepF at e
                  rwa [if_neg (by rw [HZ.out]; exact h)] at e
                have SK := Lib.hid skip
                clear skip
                cases b
                · have HN := Lib.hid (SK.out (by simp))
                  clear hz
                  go_wp2_with (fail)
                  go_roundw
                  case rel => exact ⟨u + 1, A5, c5, inn1, q1, by omega, rfl, by simp, HN.out, HI.out, HQ.out, HMS.out⟩
                  case measure => simp [intOf]; omega
                · by_cases hz0 : 0 ≤ z
                  · obtain ⟨y, hyn, rfl⟩ : ∃ y : Nat, y < x.nm ∧ z = (y : Int) := by
                      rcases hz with e | e | ⟨y, hy, he, _⟩
                      · omega
                      · omega
                      · exact ⟨y, hy, he⟩
                    have hy1000 : y < 1000 := by omega
                    have hz0' : decide ((0 : Int) ≤ (y : Int)) = true := decide_eq_true (by omega)
                    obtain ⟨bv, hbv⟩ : ∃ bv, inn1[y]? = some bv := ⟨_, List.getElem?_eq_getElem (by rw [HI.out.il]; exact hyn)⟩
                    obtain ⟨g4, hg4, cI, fI, hIl, -, -⟩ := own1_at boE_len HI.out.hin hbv rfl
                    injection hg4 with hg4
                    injection hg4 with hg4 _ _
                    subst hg4
                    have HBV := Lib.hid (bG_at hbv)
                    clear hbv hz hz0
                    cases bv
                    · have HIS := Lib.hid (HI.out.set y)
                      have HN := Lib.hid (show stepF us (r.r.drop (u + 1)) (u + 1) (inn1.set y true) (q1 ++ [y]) = S by
                        have e := HSS.out
                        unfold stepF at e
                        rwa [if_pos (by rw [HZ.out]; exact ⟨rfl, by omega, HBV.out⟩), HZ.out] at e)
                      have HCO := Lib.hid (count_on (r := inn1) (u := y) (by rw [HI.out.il]; exact hyn) HBV.out)
                      obtain ⟨w5, hw5⟩ : ∃ W, wr.setCell ⟨bi, y, none⟩ (.bool true) = W := ⟨_, rfl⟩
                      rw [hw5] at HIS
                      have S5 := Lib.hid hw5
                      have hq1l : q1.length ≤ 1000000 := by have := HMS.out; have := HM2.out; omega
                      obtain ⟨W9, hW9⟩ : ∃ y9, w5.alloc (.cells (nE y).toArray 3) = y9 := ⟨_, rfl⟩
                      have HB9 := Lib.hid (show Below w5.heap.size w5 W9 by rw [← hW9]; exact cur_new _ _)
                      have HK9 := Lib.hid (show W9.heap[w5.heap.size]? = some (.cells (nE y).toArray 3 (0, 0)) by rw [← hW9]; exact heap_alloc_new _ _)
                      have S9 := Lib.hid hW9
                      have HS9 := Lib.hid (show w.heap.size ≤ W9.heap.size from Nat.le_trans HIS.out.below.size HB9.out.size)
                      have HNB := Lib.hid (show ∀ g ∈ adB A5, g ≠ w5.heap.size from fun g hg e => by have := (HIS.out.qu.inB g hg).2; omega)
                      clear hw5 hW9
                      go_upto_region 17 with (fail)
                      rw [S5.out]
                      go_wp2_with (at_builtin; change wpList _ _ _ _ _ (w5.alloc (.cells (nE y).toArray 3)); rw [S9.out]; refine wpList_appQ w.heap.size W9 rfl (.tmp 76) (.tmp 78) rfl A5 c5 q1 (by rfl) (HIS.out.qu.to HB9.out) HS9.out y w5.heap.size 1 (by rfl) HK9.out HNB.out hq1l ?_; intro A6 c6 w6 hq6 hf6 ha6; have HQ6 := Lib.hid hq6; have HF6 := Lib.hid hf6; have HA6 := Lib.hid ha6; clear hq6 hf6 ha6)
                      have HI6 := Lib.hid (show LkI w bi x.nm A6 c6 (inn1.set y true) (q1 ++ [y]) w6 from
                        ⟨(cur_step1 HIS.out.below HB9.out).trans (HF6.out.below (cur_step1 HIS.out.below HB9.out).size (fun g hg => (HIS.out.qu.inB g hg).1)), own_far (own_below HIS.out.hin HB9.out (Nat.le_refl _)) HF6.out (fun g hg e => by simp [adB] at hg; exact HIS.out.ne g e hg), HQ6.out, fun g hg e => by
                          rcases HA6.out g hg with h1 | h1
                          · exact HIS.out.ne g h1 e
                          · have := HB9.out.size
                            have := (own_in HIS.out.hin bi (by simp [adB])).2
                            omega, HIS.out.il, HIS.out.ge⟩)
                      have HQ7 := Lib.hid (show ∀ y' ∈ q1 ++ [y], y' < x.nm from fun y' hy' => by
                        rcases List.mem_append.1 hy' with h1 | h1
                        · exact HQ.out y' h1
                        · simp at h1; omega)
                      have HL7 := Lib.hid (show (inn1.set y true).count false + (q1 ++ [y]).length = inn.count false + q.length by have := HCO.out; have := HMS.out; simp; omega)
                      go_wp2_with (fail)
                      exact ⟨⟨_, _, _, _, _, ⟨u + 1, by omega, A6, c6, inn1.set y true, q1 ++ [y], rfl, rfl, HN.out, HI6.out, HQ7.out, HL7.out⟩, by simp, rfl, rfl, rfl, by simp⟩, by simp [intOf]; omega⟩
                    · have HN := Lib.hid (SK.out (by rintro ⟨_, _, h⟩; rw [show ((y : Int)).toNat = y by omega, HBV.out] at h; cases h))
                      go_wp2_with (fail)
                      go_roundw
                      case rel => exact ⟨u + 1, A5, c5, inn1, q1, by omega, rfl, by simp, HN.out, HI.out, HQ.out, HMS.out⟩
                      case measure => simp [intOf]; omega
                  · have HN := Lib.hid (SK.out (fun h => hz0 h.2.1))
                    have hz0' : decide ((0 : Int) ≤ z) = false := decide_eq_false hz0
                    clear hz
                    go_wp2_with (fail)
                    go_roundw
                    case rel => exact ⟨u + 1, A5, c5, inn1, q1, by omega, rfl, by simp, HN.out, HI.out, HQ.out, HMS.out⟩
                    case measure => simp [intOf]; omega
              · have HE := Lib.hid (show S = (inn1, q1) by
                  have e := HS.out
                  rw [List.drop_of_length_le (by rw [HRL.out]; omega)] at e
                  exact e.symm)
                have e := HE.out
                subst e
                have HC5 := Lib.hid (cntF_own HI.out.hin HI.out.il)
                have HX := Lib.hid HF2.out
                go_wp2_with (fail)
                refine ⟨⟨f', A5, c5, inn1, q1, rfl, HI.out, HX.out, by have := HMS.out; have := HM2.out; omega, hf3', HQ.out⟩, ?_⟩
                have h1 := HC5.out
                have h2 := HCN.out
                have h3 := HMS.out
                simp only [Array.getD, sliceN] at *
                simp [sliceN]
                omega
          · have HI2 := Lib.hid (HIQ.out (some ⟨g3, off3 + 1, none⟩) (c3 - 1) HQT.out (by rw [HA3.out]; rfl))
            clear HIQ HQT HG3 HA3
            go_wp2_with (fail)
            go_loopw [6, 49] (fun v iv wr3 => ∃ (u : Nat) (A5 : Option Addr) (c5 : Nat) (inn1 : List Bool) (q1 : List Nat), u ≤ x.nu ∧ v = .slice A5 q1.length c5 ∧ iv = .int .i64 u ∧ stepF us (r.r.drop u) u inn1 q1 = S ∧ LkI w bi x.nm A5 c5 inn1 q1 wr3 ∧ (∀ y ∈ q1, y < x.nm) ∧ inn1.count false + q1.length = inn.count false + q.length) (fun _ i _ => x.nu - (intOf i).toNat)
            case atStart => exact ⟨0, some ⟨g3, off3 + 1, none⟩, c3 - 1, inn, q, by omega, rfl, rfl, HS.out, HI2.out, HQ2.out, rfl⟩
            case round =>
              clear HI2 HS HQ2
              obtain ⟨u, A5, c5, inn1, q1, hu, rfl, rfl, hS, hI, hQ, hms⟩ := hrel
              have HS := Lib.hid hS
              have HI := Lib.hid hI
              have HQ := Lib.hid hQ
              have HMS := Lib.hid hms
              clear hS hI hQ hms
              have HM3 := Lib.hid (H.out.to HI.out.below)
              by_cases hul : u < x.nu
              · obtain ⟨b, hb⟩ : ∃ b, r.r[u]? = some b := ⟨_, List.getElem?_eq_getElem (by rw [HRL.out]; exact hul)⟩
                obtain ⟨gr, hgr, cr, -, hgrl, -, -⟩ := own1_at boE_len (HM3.out.row r HMAY.out).1 hb rfl
                obtain ⟨gU, hgU, cU, -, hgUl, -, -⟩ := own1_at iE_len HM3.out.hused (uG_at (by rw [HM3.out.lu]; exact hul)) rfl
                obtain ⟨-, -, d2, dl2⟩ := HM3.out.cells
                rw [hgU] at d2
                have HSS := Lib.hid (show stepF us (b :: r.r.drop (u + 1)) u inn1 q1 = S by
                  have e := HS.out
                  rwa [List.drop_eq_getElem_cons (by rw [HRL.out]; exact hul), show r.r[u]'(by rw [HRL.out]; exact hul) = b from Option.some.inj ((List.getElem?_eq_getElem _).symm.trans hb)] at e)
                have hz := HV.out u
                have hu1000 : u < 1000 := by omega
                obtain ⟨z, hzz⟩ : ∃ z, uG us u = z := ⟨_, rfl⟩
                rw [hzz] at cU hz
                have HZ := Lib.hid hzz
                have HGr := Lib.hid hgr
                rw [hgr]
                clear hb hgr hgU hzz HS
                have skip : ∀ (h : ¬ (b = true ∧ 0 ≤ z ∧ bG inn1 z.toNat = false)), stepF us (r.r.drop (u + 1)) (u + 1) inn1 q1 = S := fun h => by
                  have e := HSS.out
                  unfold stepF at e
                  rwa [if_neg (by rw [HZ.out]; exact h)] at e
                have SK := Lib.hid skip
                clear skip
                cases b
                · have HN := Lib.hid (SK.out (by simp))
                  clear hz
                  go_wp2_with (fail)
                  go_roundw
                  case rel => exact ⟨u + 1, A5, c5, inn1, q1, by omega, rfl, by simp, HN.out, HI.out, HQ.out, HMS.out⟩
                  case measure => simp [intOf]; omega
                · by_cases hz0 : 0 ≤ z
                  · obtain ⟨y, hyn, rfl⟩ : ∃ y : Nat, y < x.nm ∧ z = (y : Int) := by
                      rcases hz with e | e | ⟨y, hy, he, _⟩
                      · omega
                      · omega
                      · exact ⟨y, hy, he⟩
                    have hy1000 : y < 1000 := by omega
                    have hz0' : decide ((0 : Int) ≤ (y : Int)) = true := decide_eq_true (by omega)
                    obtain ⟨bv, hbv⟩ : ∃ bv, inn1[y]? = some bv := ⟨_, List.getElem?_eq_getElem (by rw [HI.out.il]; exact hyn)⟩
                    obtain ⟨g4, hg4, cI, fI, hIl, -, -⟩ := own1_at boE_len HI.out.hin hbv rfl
                    injection hg4 with hg4
                    injection hg4 with hg4 _ _
                    subst hg4
                    have HBV := Lib.hid (bG_at hbv)
                    clear hbv hz hz0
                    cases bv
                    · have HIS := Lib.hid (HI.out.set y)
                      have HN := Lib.hid (show stepF us (r.r.drop (u + 1)) (u + 1) (inn1.set y true) (q1 ++ [y]) = S by
                        have e := HSS.out
                        unfold stepF at e
                        rwa [if_pos (by rw [HZ.out]; exact ⟨rfl, by omega, HBV.out⟩), HZ.out] at e)
                      have HCO := Lib.hid (count_on (r := inn1) (u := y) (by rw [HI.out.il]; exact hyn) HBV.out)
                      obtain ⟨w5, hw5⟩ : ∃ W, wr.setCell ⟨bi, y, none⟩ (.bool true) = W := ⟨_, rfl⟩
                      rw [hw5] at HIS
                      have S5 := Lib.hid hw5
                      have hq1l : q1.length ≤ 1000000 := by have := HMS.out; have := HM2.out; omega
                      obtain ⟨W9, hW9⟩ : ∃ y9, w5.alloc (.cells (nE y).toArray 3) = y9 := ⟨_, rfl⟩
                      have HB9 := Lib.hid (show Below w5.heap.size w5 W9 by rw [← hW9]; exact cur_new _ _)
                      have HK9 := Lib.hid (show W9.heap[w5.heap.size]? = some (.cells (nE y).toArray 3 (0, 0)) by rw [← hW9]; exact heap_alloc_new _ _)
                      have S9 := Lib.hid hW9
                      have HS9 := Lib.hid (show w.heap.size ≤ W9.heap.size from Nat.le_trans HIS.out.below.size HB9.out.size)
                      have HNB := Lib.hid (show ∀ g ∈ adB A5, g ≠ w5.heap.size from fun g hg e => by have := (HIS.out.qu.inB g hg).2; omega)
                      clear hw5 hW9
                      go_upto_region 17 with (fail)
                      rw [S5.out]
                      go_wp2_with (at_builtin; change wpList _ _ _ _ _ (w5.alloc (.cells (nE y).toArray 3)); rw [S9.out]; refine wpList_appQ w.heap.size W9 rfl (.tmp 76) (.tmp 78) rfl A5 c5 q1 (by rfl) (HIS.out.qu.to HB9.out) HS9.out y w5.heap.size 1 (by rfl) HK9.out HNB.out hq1l ?_; intro A6 c6 w6 hq6 hf6 ha6; have HQ6 := Lib.hid hq6; have HF6 := Lib.hid hf6; have HA6 := Lib.hid ha6; clear hq6 hf6 ha6)
                      have HI6 := Lib.hid (show LkI w bi x.nm A6 c6 (inn1.set y true) (q1 ++ [y]) w6 from
                        ⟨(cur_step1 HIS.out.below HB9.out).trans (HF6.out.below (cur_step1 HIS.out.below HB9.out).size (fun g hg => (HIS.out.qu.inB g hg).1)), own_far (own_below HIS.out.hin HB9.out (Nat.le_refl _)) HF6.out (fun g hg e => by simp [adB] at hg; exact HIS.out.ne g e hg), HQ6.out, fun g hg e => by
                          rcases HA6.out g hg with h1 | h1
                          · exact HIS.out.ne g h1 e
                          · have := HB9.out.size
                            have := (own_in HIS.out.hin bi (by simp [adB])).2
                            omega, HIS.out.il, HIS.out.ge⟩)
                      have HQ7 := Lib.hid (show ∀ y' ∈ q1 ++ [y], y' < x.nm from fun y' hy' => by
                        rcases List.mem_append.1 hy' with h1 | h1
                        · exact HQ.out y' h1
                        · simp at h1; omega)
                      have HL7 := Lib.hid (show (inn1.set y true).count false + (q1 ++ [y]).length = inn.count false + q.length by have := HCO.out; have := HMS.out; simp; omega)
                      go_wp2_with (fail)
                      exact ⟨⟨_, _, _, _, _, ⟨u + 1, by omega, A6, c6, inn1.set y true, q1 ++ [y], rfl, rfl, HN.out, HI6.out, HQ7.out, HL7.out⟩, by simp, rfl, rfl, rfl, by simp⟩, by simp [intOf]; omega⟩
                    · have HN := Lib.hid (SK.out (by rintro ⟨_, _, h⟩; rw [show ((y : Int)).toNat = y by omega, HBV.out] at h; cases h))
                      go_wp2_with (fail)
                      go_roundw
                      case rel => exact ⟨u + 1, A5, c5, inn1, q1, by omega, rfl, by simp, HN.out, HI.out, HQ.out, HMS.out⟩
                      case measure => simp [intOf]; omega
                  · have HN := Lib.hid (SK.out (fun h => hz0 h.2.1))
                    have hz0' : decide ((0 : Int) ≤ z) = false := decide_eq_false hz0
                    clear hz
                    go_wp2_with (fail)
                    go_roundw
                    case rel => exact ⟨u + 1, A5, c5, inn1, q1, by omega, rfl, by simp, HN.out, HI.out, HQ.out, HMS.out⟩
                    case measure => simp [intOf]; omega
              · have HE := Lib.hid (show S = (inn1, q1) by
                  have e := HS.out
                  rw [List.drop_of_length_le (by rw [HRL.out]; omega)] at e
                  exact e.symm)
                have e := HE.out
                subst e
                have HC5 := Lib.hid (cntF_own HI.out.hin HI.out.il)
                have HX := Lib.hid HF2.out
                go_wp2_with (fail)
                refine ⟨⟨f', A5, c5, inn1, q1, rfl, HI.out, HX.out, by have := HMS.out; have := HM2.out; omega, hf3', HQ.out⟩, ?_⟩
                have h1 := HC5.out
                have h2 := HCN.out
                have h3 := HMS.out
                simp only [Array.getD, sliceN] at *
                simp [sliceN]
                omega
end Go.Proofs.Ytckbhdokfkabfaa
