/-
  Chapter 55: newMatching: the walk.
-/
import Derived.Test.YtckbhdokfkabfaaNew55
set_option linter.unusedSimpArgs false
set_option linter.unusedVariables false
namespace Go.Proofs.Ytckbhdokfkabfaa
open Go.RowKit
set_option maxRecDepth 100000
set_option maxHeartbeats 8000000
theorem Try.infoRw : (Try.prog.info? 94).map (fun i => (i.zero, i.size, i.bytes)) = some (some (.slice none 0 0), 1, 24) := by kernel_rfl
theorem Try.rwElem (nu : Nat) : ElemOf Try.prog (rwE nu) 1 24 91 94 := .mk' Try.infoRw rfl Try.underlying91 (by decide) (rwE_len nu) (fun x u hu => by simp [rwE] at hu; subst hu; rfl)
def rowM (U : List Ump) (x : Dty) : List Bool := U.map (mayB x)
theorem rep_next {α : Type} (i n : Nat) (a b : α) (h : i < n) : (List.replicate i a ++ List.replicate (n - i) b).set i a = List.replicate (i + 1) a ++ List.replicate (n - (i + 1)) b := by
  rw [show n - i = (n - (i + 1)) + 1 by omega, List.replicate_succ, List.set_append_right _ _ (by simp)]
  simp [List.replicate_succ']
theorem fill_next {α β : Type} (f : α → β) (l : List α) (i n : Nat) (z : β) (x : α) (hl : l.length = n) (h : l[i]? = some x) : ((l.take i).map f ++ List.replicate (n - i) z).set i (f x) = (l.take (i + 1)).map f ++ List.replicate (n - (i + 1)) z := by
  have hi := (List.getElem?_eq_some_iff.1 h).1
  have hln : ((l.take i).map f).length = i := by simp; omega
  rw [show n - i = (n - (i + 1)) + 1 by omega, List.replicate_succ, List.set_append_right _ _ (by omega), hln, Nat.sub_self, List.set_cons_zero, List.take_add_one, h, List.map_append]
  simp
theorem MatP.inR {B bX : Nat} {R : Option Addr} {rc : Nat} {N : Option Addr} {nc : Nat} {U : Option Addr} {uc nu : Nat} {rows : List Rw} {need : List Nat} {us : List Int} {w : World} (h : MatP B bX R rc N nc U uc nu rows need us w) : ∀ y ∈ (bX :: adB R), B ≤ y := by
  intro y hy
  rcases List.mem_cons.1 hy with e | e
  · subst e; exact h.ge
  · exact (own_in h.outer y e).1
theorem MatP.inN {B bX : Nat} {R : Option Addr} {rc : Nat} {N : Option Addr} {nc : Nat} {U : Option Addr} {uc nu : Nat} {rows : List Rw} {need : List Nat} {us : List Int} {w : World} (h : MatP B bX R rc N nc U uc nu rows need us w) : ∀ y ∈ (bX :: adB N), B ≤ y := by
  intro y hy
  rcases List.mem_cons.1 hy with e | e
  · subst e; exact h.ge
  · exact (own_in h.hneed y e).1
theorem newm_p (M : List Dty) (U : List Ump) (A B : Option Addr) (c d : Nat) (w : World) (hM : Rd dtE 4 w w.heap.size A M) (hU : UmR w B U) (hus : ∀ y ∈ U, UmS y) (hml : M.length ≤ 1000) (hul : U.length ≤ 1000) :
    Calls Try.prog 32 #[.slice A M.length c, .slice B U.length d] w fun e w' => ∃ (x : Mx) (rows : List Rw), e = .returned (.pointer (some ⟨x.bX, 0, none⟩)) ∧ MatS w.heap.size x rows (List.replicate M.length 2) (List.replicate U.length (-1)) w' ∧ mayR rows = M.map (rowM U) ∧ x.nm = M.length ∧ x.nu = U.length ∧ Below w.heap.size w w' := by
  obtain ⟨nu, hnu⟩ : ∃ n, U.length = n := ⟨_, rfl⟩
  have HM := Lib.hid hM
  have HU := Lib.hid hU
  have HUS := Lib.hid hus
  have HNU := Lib.hid hnu
  rw [hnu] at hul ⊢
  clear hM hU hus hnu
  go_enter Try.func32, Try.ntmps32
  go_wp2_with (refine wpList_makeO (enc := iE) 0 _ rfl _ _ _ rfl 3 (.int .i64 0) 8 rfl (by kernel_rfl) (by kernel_rfl) (by kernel_rfl) .i64 .i64 nu (by rfl) (by rfl) (by omega) (by unfold maxLen; omega) ?_; intro w1 hs1 hb1 hl1; have HS1 := Lib.hid hs1; have HB1 := Lib.hid hb1; clear hs1 hb1)
  have hb2 := cur_new w1 (.cells #[.slice none 0 0, .slice none 0 0, .slice (some ⟨w.heap.size, 0, none⟩) nu nu] 93)
  have hk2 := Blk.new w1 93 [.slice none 0 0, .slice none 0 0, .slice (some ⟨w.heap.size, 0, none⟩) nu nu]
  generalize w1.alloc (.cells #[.slice none 0 0, .slice none 0 0, .slice (some ⟨w.heap.size, 0, none⟩) nu nu] 93) = w2 at hb2 hk2 ⊢
  have HP2 := Lib.hid (show MatP w.heap.size w1.heap.size none 0 none 0 (some ⟨w.heap.size, 0, none⟩) nu nu [] [] (List.replicate nu 0) w2 from
    ⟨hk2, HB1.out.size, World.ownsRow_nil _ _ _ _, (fun r hr => by simp at hr), World.ownsRow_nil _ _ _ _, own_below HS1.out hb2 (Nat.le_refl _), by simp [adB, rwB]; omega, by simp⟩)
  have HB2 := Lib.hid (cur_step1 HB1.out hb2)
  obtain ⟨bX, hbX⟩ : ∃ y, w1.heap.size = y := ⟨_, rfl⟩
  obtain ⟨bU, hbU⟩ : ∃ y, w.heap.size = y := ⟨_, rfl⟩
  rw [hbX] at HP2 ⊢
  have HBU := Lib.hid hbU
  rw [hbU] at HP2 ⊢
  clear hb2 hk2 HS1 HB1 hbX hbU hl1
  go_loopw [19] (fun iv wr => ∃ (k : Nat) (R : Option Addr) (rc : Nat) (N : Option Addr) (nc : Nat) (rows : List Rw), k ≤ M.length ∧ iv = .int .i64 k ∧ MatP bU bX R rc N nc (some ⟨bU, 0, none⟩) nu nu rows (List.replicate k 2) (List.replicate nu 0) wr ∧ mayR rows = (M.take k).map (rowM U) ∧ Below w.heap.size w wr) (fun i _ => M.length - (intOf i).toNat)
  case atStart => exact ⟨0, none, 0, none, 0, [], by omega, rfl, HP2.out, rfl, HB2.out⟩
  case round =>
    clear HP2 HB2
    obtain ⟨k, R, rc, N, nc, rows, hk, rfl, hP, hmr, hb⟩ := hrel
    have HP := Lib.hid hP
    have HB := Lib.hid hb
    have HMR := Lib.hid hmr
    have HRL := Lib.hid (show rows.length = k by have := congrArg List.length hmr; simp [mayR] at this; omega)
    clear hP hb hmr
    by_cases hkl : k < M.length
    · obtain ⟨⟨xm, xd, xh, xa⟩, hx⟩ : ∃ x, M[k]? = some x := ⟨_, List.getElem?_eq_getElem hkl⟩
      obtain ⟨b1, off1, rfl, hb1l, hcl⟩ := HM.out.at_ HB.out hx
      obtain ⟨c0, c1, c2, c3⟩ := dt_cells hcl
      dsimp only at c0 c1 c2 c3
      have hb1w : b1 < wr.heap.size := Nat.lt_of_lt_of_le hb1l HB.out.size
      have HMN := Lib.hid (show (M.take (k + 1)).map (rowM U) = (M.take k).map (rowM U) ++ [rowM U ⟨xm, xd, xh, xa⟩] by rw [List.take_add_one, hx, List.map_append]; rfl)
      have hk1000 : k < 1000 := by omega
      clear hcl hx
      go_upto_region 5 with (fail)
      have hb3 := cur_new wr (.cells #[.int .i64 xm, .int .i64 xd, .string xh, .string xa] 29)
      have hk3 := Blk.new wr 29 [.int .i64 xm, .int .i64 xd, .string xh, .string xa]
      generalize wr.alloc (.cells #[.int .i64 xm, .int .i64 xd, .string xh, .string xa] 29) = w3 at hb3 hk3 ⊢
      obtain ⟨g7, hg7⟩ : ∃ y, wr.heap.size = y := ⟨_, rfl⟩
      rw [hg7] at hk3 ⊢
      have HK3 := Lib.hid hk3
      have HB3 := Lib.hid (cur_step1 HB.out hb3)
      have HP3 := Lib.hid (HP.out.to hb3)
      clear hb3 hk3 hg7 c0 c1 c2 c3 HP HB
      go_wp2_with (refine wpList_makeO (enc := boE) false _ rfl _ _ _ rfl 4 (.bool false) 1 rfl (by kernel_rfl) (by kernel_rfl) (by kernel_rfl) .i64 .i64 nu (by rfl) (by rfl) (by omega) (by unfold maxLen; omega) ?_; intro w4 hs4 hb4 hl4; have HS4 := Lib.hid hs4; have HB4 := Lib.hid hb4; clear hs4 hb4)
      obtain ⟨gr, hgr⟩ : ∃ y, w3.heap.size = y := ⟨_, rfl⟩
      rw [hgr] at HS4 HB4 ⊢
      have HGR := Lib.hid hgr
      clear hgr hl4
      go_loopw [28] (fun iv wr2 => ∃ i : Nat, i ≤ nu ∧ iv = .int .i64 i ∧ OwnL boE 1 4 gr wr2 (.slice (some ⟨gr, 0, none⟩) nu nu) ((U.take i).map (mayB ⟨xm, xd, xh, xa⟩) ++ List.replicate (nu - i) false) ∧ Below gr w3 wr2) (fun i _ => nu - (intOf i).toNat)
      case atStart => exact ⟨0, by omega, rfl, HS4.out, HB4.out⟩
      case round =>
        clear HS4 HB4
        obtain ⟨i, hi, rfl, ho, hbb⟩ := hrel
        have HO := Lib.hid ho
        have HBB := Lib.hid (show Below w3.heap.size w3 wr by rw [HGR.out]; exact hbb)
        clear ho hbb
        have HBW := Lib.hid (cur_step1 HB3.out HBB.out)
        by_cases hil : i < nu
        · obtain ⟨⟨xn, xt, xs, xA, xc⟩, hz⟩ : ∃ z, U[i]? = some z := ⟨_, List.getElem?_eq_getElem (by rw [HNU.out]; exact hil)⟩
          obtain ⟨b5, off5, hB5, hb5l, hcl5⟩ := HU.out.rd.at_ HBW.out hz
          obtain ⟨e0, e1, e2⟩ := um_cells hcl5
          dsimp only at e0 e1 e2
          have HDS := Lib.hid (show Rd iE 1 w w.heap.size xA xs from HU.out.ds _ (List.mem_of_getElem? hz))
          have HDL := Lib.hid (show xs.length ≤ 1000000 from (HUS.out _ (List.mem_of_getElem? hz)).2.2)
          have HFN := Lib.hid (fill_next (mayB ⟨xm, xd, xh, xa⟩) U i nu false ⟨xn, xt, xs, xA, xc⟩ HNU.out hz)
          rw [hB5]
          have HB5 := Lib.hid hB5
          clear hcl5 hz hB5
          have hi1000 : i < 1000 := by omega
          go_upto_region 9 with (fail)
          have hb6 := cur_new wr (.cells #[.string xn, .string xt, .slice xA xs.length xc] 32)
          have hk6 := Blk.new wr 32 [.string xn, .string xt, .slice xA xs.length xc]
          generalize wr.alloc (.cells #[.string xn, .string xt, .slice xA xs.length xc] 32) = w6 at hb6 hk6 ⊢
          have hk3 := (HK3.out.to HBB.out).to hb6
          have d0 : w6.cell? ⟨g7, 0, none⟩ = some (.int .i64 xm) := hk3.cell 0
          have d1 : w6.cell? ⟨g7, 1, none⟩ = some (.int .i64 xd) := hk3.cell 1
          have d2 : w6.cell? ⟨g7, 2, none⟩ = some (.string xh) := hk3.cell 2
          have d3 : w6.cell? ⟨g7, 3, none⟩ = some (.string xa) := hk3.cell 3
          have f0 : w6.cell? ⟨wr.heap.size, 0, none⟩ = some (.string xn) := hk6.cell 0
          have f1 : w6.cell? ⟨wr.heap.size, 1, none⟩ = some (.string xt) := hk6.cell 1
          have f2 : w6.cell? ⟨wr.heap.size, 2, none⟩ = some (.slice xA xs.length xc) := hk6.cell 2
          have HB6 := Lib.hid hb6
          clear hk3 hk6 hb6 e0 e1 e2
          go_wp2_with (fail)
          obtain ⟨v, hv⟩ : ∃ v, mayB ⟨xm, xd, xh, xa⟩ ⟨xn, xt, xs, xA, xc⟩ = v := ⟨_, rfl⟩
          rw [hv] at HFN
          refine (may_p ⟨xm, xd, xh, xa⟩ ⟨xn, xt, xs, xA, xc⟩ v w6 HDL.out ((HDS.out.to HBW.out).to HB6.out) hv).mono ?_
          rintro e w7 ⟨rfl, hb7⟩
          have HO7 := Lib.hid (own_below (own_below HO.out HB6.out (Nat.le_refl _)) hb7 (Nat.le_refl _))
          have HB7 := Lib.hid (show Below gr w3 w7 by have h := cur_step1 (cur_step1 HBB.out HB6.out) hb7; rw [HGR.out] at h; exact h)
          clear hv hb7 d0 d1 d2 d3 f0 f1 f2 HB6
          obtain ⟨bv, hbv⟩ : ∃ bv, ((U.take i).map (mayB ⟨xm, xd, xh, xa⟩) ++ List.replicate (nu - i) false)[i]? = some bv := ⟨_, List.getElem?_eq_getElem (by simp [HNU.out]; omega)⟩
          obtain ⟨g4, hg4, cI, fI, hIl, -, -⟩ := own1_at boE_len HO7.out hbv rfl
          injection hg4 with hg4
          injection hg4 with hg4 _ _
          subst hg4
          have HO8 := Lib.hid (show OwnL boE 1 4 gr (w7.setCell ⟨gr, i, none⟩ (.bool v)) (.slice (some ⟨gr, 0, none⟩) nu nu) ((U.take (i + 1)).map (mayB ⟨xm, xd, xh, xa⟩) ++ List.replicate (nu - (i + 1)) false) by rw [← HFN.out]; exact own1_set boE_len HO7.out rfl)
          have HB8 := Lib.hid (show Below gr w3 (w7.setCell ⟨gr, i, none⟩ (.bool v)) from HB7.out.trans ((Far.cell w7 gr i (.bool v)).below (by have h1 := HB7.out.size; have h2 := HGR.out; omega) (fun y hy => by simp at hy; omega)))
          clear hbv
          go_wp2_with (fail)
          go_roundw
          case rel => exact ⟨i + 1, by omega, by simp, HO8.out, HB8.out⟩
          case measure => simp [intOf]; omega
        · have HOF := Lib.hid (show OwnL boE 1 4 gr wr (.slice (some ⟨gr, 0, none⟩) nu nu) (rowM U ⟨xm, xd, xh, xa⟩) by
            have h := HO.out
            rw [show nu - i = 0 by omega, List.take_of_length_le (by rw [HNU.out]; omega)] at h
            simpa [rowM] using h)
          have HP4 := Lib.hid (HP3.out.to HBB.out)
          have hlr : (rowM U ⟨xm, xd, xh, xa⟩).length = nu := by unfold rowM; rw [List.length_map, HNU.out]
          obtain ⟨row, hrow⟩ : ∃ r, rowM U ⟨xm, xd, xh, xa⟩ = r := ⟨_, rfl⟩
          rw [hrow] at HOF hlr HMN
          have HLR := Lib.hid hlr
          have hbu : bU ≤ gr := by have h1 := HP3.out.ge; have h2 := HP3.out.blk.lt; have h3 := HGR.out; omega
          obtain ⟨W7, hW7⟩ : ∃ y, wr.alloc (.cells (rwE nu ⟨some ⟨gr, 0, none⟩, nu, row⟩).toArray 94) = y := ⟨_, rfl⟩
          have HB7 := Lib.hid (show Below wr.heap.size wr W7 by rw [← hW7]; exact cur_new _ _)
          have HK7 := Lib.hid (show W7.heap[wr.heap.size]? = some (.cells (rwE nu ⟨some ⟨gr, 0, none⟩, nu, row⟩).toArray 94 (0, 0)) by rw [← hW7]; exact heap_alloc_new _ _)
          have S7 := Lib.hid hW7
          have HP7 := Lib.hid (HP4.out.to HB7.out)
          have HS7 := Lib.hid (show bU ≤ W7.heap.size by have h1 := HP7.out.ge; have h2 := HP7.out.blk.lt; omega)
          have k7 : wr.cell? ⟨bX, 0, none⟩ = some (.slice R rows.length rc) := HP4.out.blk.cell 0
          have kl7 := HP4.out.blk.lt
          have hrl : rows.length < 1000 := by have := HRL.out; omega
          clear hW7 hlr hrow
          go_upto_region 12 with (at_builtin; change wpList _ _ _ _ _ (wr.alloc (.cells (rwE nu ⟨some ⟨gr, 0, none⟩, nu, row⟩).toArray 94)); rw [S7.out]; refine wpList_app1 (Try.rwElem nu) W7 rfl (.tmp 44) (.tmp 46) rfl bU R rc rows (by rfl) HP7.out.outer ⟨some ⟨gr, 0, none⟩, nu, row⟩ wr.heap.size 1 (by rfl) HK7.out (by unfold maxLen; omega) (by omega) HS7.out ?_; intro g8 cap8 w8 ha8; have HA8 := Lib.hid ha8; have hk8 := HP7.out.blk.far (Far.grown ha8.grown (fun b hb => adB_own hb)) (fun e => (List.nodup_cons.1 HP7.out.nd).1 (by simp [e])); have k8 := hk8.cell 0; have f8 := hk8.frozen 0; have l8 := hk8.lt; clear ha8 hk8)
          have hadd := HP4.out.addR (r := ⟨some ⟨gr, 0, none⟩, nu, row⟩) HB7.out (own_mono HOF.out hbu) HLR.out (fun b hb e => by
            simp [adB] at hb
            have h1 := (HP3.out.inB b e).2
            have h2 := HGR.out
            omega) HA8.out
          obtain ⟨nd, hnd⟩ : ∃ nd, List.replicate k 2 = nd := ⟨_, rfl⟩
          have HNL := Lib.hid (show nd.length = k by rw [← hnd]; simp)
          have HND := Lib.hid (show List.replicate (k + 1) 2 = nd ++ [2] by rw [List.replicate_succ', hnd])
          have HBU3 := Lib.hid HP4.out.inR
          obtain ⟨w9, hw9⟩ : ∃ W, w8.setCell ⟨bX, 0, none⟩ (.slice (some ⟨g8, 0, none⟩) (rows.length + 1) cap8) = W := ⟨_, rfl⟩
          rw [hw9, hnd] at hadd
          have HP9 := Lib.hid hadd.1
          have HB9 := Lib.hid (show Below w.heap.size w w9 from HBW.out.trans (hadd.2.below HBW.out.size (fun y hy => by have h1 := HBU3.out y hy; have h2 := HBU.out; omega)))
          rw [hw9]
          clear hadd hw9 hnd k8 f8 l8 k7 kl7 HA8 HK7 S7 HP7 HS7 HB7 HP4
          obtain ⟨W10, hW10⟩ : ∃ y, w9.alloc (.cells (nE 2).toArray 3) = y := ⟨_, rfl⟩
          have HB10 := Lib.hid (show Below w9.heap.size w9 W10 by rw [← hW10]; exact cur_new _ _)
          have HK10 := Lib.hid (show W10.heap[w9.heap.size]? = some (.cells (nE 2).toArray 3 (0, 0)) by rw [← hW10]; exact heap_alloc_new _ _)
          have S10 := Lib.hid hW10
          have HP10 := Lib.hid (HP9.out.to HB10.out)
          have HS10 := Lib.hid (show bU ≤ W10.heap.size by have h1 := HP10.out.ge; have h2 := HP10.out.blk.lt; omega)
          have k9 : w9.cell? ⟨bX, 1, none⟩ = some (.slice N nd.length nc) := HP9.out.blk.cell 1
          have kl9 := HP9.out.blk.lt
          have hnl : nd.length < 1000 := by have := HNL.out; omega
          clear hW10
          go_wp2_with (at_builtin; change wpList _ _ _ _ _ (w9.alloc (.cells (nE 2).toArray 3)); rw [S10.out]; refine wpList_app1 Try.nElem W10 rfl (.tmp 54) (.tmp 55) rfl bU N nc nd (by rfl) HP10.out.hneed 2 w9.heap.size 1 (by rfl) HK10.out (by unfold maxLen; omega) (by omega) HS10.out ?_; intro g11 cap11 w11 ha11; have HA11 := Lib.hid ha11; have hk11 := HP10.out.blk.far (Far.grown ha11.grown (fun b hb => adB_own hb)) (fun e => (List.nodup_cons.1 HP10.out.nd).1 (by simp [e])); have k11 := hk11.cell 1; have f11 := hk11.frozen 1; have l11 := hk11.lt; clear ha11 hk11)
          have hadd := HP9.out.addN HB10.out HA11.out
          have HP12 := Lib.hid hadd.1
          have HB12 := Lib.hid (show Below w.heap.size w (w11.setCell ⟨bX, 1, none⟩ (.slice (some ⟨g11, 0, none⟩) (nd.length + 1) cap11)) from HB9.out.trans (hadd.2.below HB9.out.size (fun y hy => by have h1 := HP9.out.inN y hy; have h2 := HBU.out; omega)))
          have HMR2 := Lib.hid (show mayR (rows ++ [⟨some ⟨gr, 0, none⟩, nu, row⟩]) = (M.take (k + 1)).map (rowM U) by
            rw [HMN.out, ← HMR.out]; unfold mayR; rw [List.map_append]; rfl)
          clear hadd
          exact ⟨⟨k + 1, some ⟨g8, 0, none⟩, cap8, some ⟨g11, 0, none⟩, cap11, _, by omega, by simp, by rw [HND.out]; exact HP12.out, HMR2.out, HB12.out⟩, by simp [intOf]; omega⟩
    · have hke : k = M.length := by omega
      have hex : ∃ x : Mx, x.bX = bX ∧ x.U = some ⟨bU, 0, none⟩ ∧ x.uc = nu ∧ x.nm = M.length ∧ x.nu = nu ∧ MatS bU x rows (List.replicate k 2) (List.replicate nu 0) wr := ⟨_, rfl, rfl, rfl, by show rows.length = _; rw [HRL.out, hke], rfl, HP.out.mat (by simp [HRL.out])⟩
      obtain ⟨x, e1, e2, e3, e4, e5, hm⟩ := hex
      have HM2 := Lib.hid (show MatS bU x rows (List.replicate M.length 2) (List.replicate nu 0) wr by rw [← hke]; exact hm)
      have HE1 := Lib.hid e1
      have HE2 := Lib.hid e2
      have HE3 := Lib.hid e3
      have HE4 := Lib.hid e4
      have HE5 := Lib.hid e5
      have HMF := Lib.hid (show mayR rows = M.map (rowM U) by
        have e := HMR.out
        rwa [List.take_of_length_le (by omega)] at e)
      clear hm e1 e2 e3 e4 e5 hke HP HMR HRL
      go_wp2_with (fail)
      go_loopw [62] (fun iv wr2 => ∃ i : Nat, i ≤ nu ∧ iv = .int .i64 i ∧ MatS bU x rows (List.replicate M.length 2) (List.replicate i (-1) ++ List.replicate (nu - i) 0) wr2 ∧ Below w.heap.size w wr2) (fun i _ => nu - (intOf i).toNat)
      case atStart => exact ⟨0, by omega, rfl, by rw [Nat.sub_zero]; exact HM2.out, HB.out⟩
      case round =>
        clear HM2 HB
        obtain ⟨i, hi, rfl, hm, hb⟩ := hrel
        have HM2 := Lib.hid hm
        have HB := Lib.hid hb
        clear hm hb
        by_cases hil : i < nu
        · obtain ⟨-, -, c2, cl⟩ := HM2.out.cells
          obtain ⟨bv, hbv⟩ : ∃ bv, (List.replicate i (-1 : Int) ++ List.replicate (nu - i) 0)[i]? = some bv := ⟨_, List.getElem?_eq_getElem (by simp; omega)⟩
          obtain ⟨g4, hg4, cI, fI, hIl, -, -⟩ := own1_at iE_len HM2.out.hused hbv rfl
          rw [HE2.out] at hg4
          injection hg4 with hg4
          injection hg4 with hg4 _ _
          subst hg4
          rw [HE1.out, HE2.out, HE5.out] at c2
          have HMS := Lib.hid (HM2.out.setU (us' := List.replicate (i + 1) (-1) ++ List.replicate (nu - (i + 1)) 0) (w' := wr.setCell ⟨bU, i, none⟩ (.int .i64 (-1))) (by rw [HE2.out]; exact Far.cell wr bU i _) (by
            rw [← rep_next i nu (-1 : Int) 0 hil]
            have h1 := HM2.out.hused
            rw [HE2.out] at h1 ⊢
            exact own1_set iE_len h1 rfl) (by rw [HE5.out]; simp; omega))
          have HBS := Lib.hid (show Below w.heap.size w (wr.setCell ⟨bU, i, none⟩ (.int .i64 (-1))) from HB.out.trans ((Far.cell wr bU i (.int .i64 (-1))).below HB.out.size (fun y hy => by simp at hy; have := HBU.out; omega)))
          rw [HE1.out] at cl
          have hi1000 : i < 1000 := by omega
          clear hbv
          go_wp2_with (fail)
          go_roundw
          case rel => exact ⟨i + 1, by omega, by simp, HMS.out, HBS.out⟩
          case measure => simp [intOf]; omega
        · have HMF2 := Lib.hid (show MatS bU x rows (List.replicate M.length 2) (List.replicate nu (-1)) wr by
            have h := HM2.out
            rw [show i = nu by omega, Nat.sub_self] at h
            simpa using h)
          go_wp2_with (fail)
          go_ret
          refine ⟨x, rows, ?_, by rw [HBU.out]; exact HMF2.out, HMF.out, HE4.out, HE5.out, HB.out⟩
          rw [HE1.out]
          rfl
end Go.Proofs.Ytckbhdokfkabfaa
