/-
  Chapter 12: may, Enter, TimeOut, with any lists.
-/
import Derived.Test.YtjlmlafiojpjmaaCrC
import Derived.Deep.DeepCutAuto
import Derived.Deep.CutBlock
import Derived.BigGuard
set_option linter.unusedSimpArgs false
set_option linter.unusedVariables false
namespace Go.Proofs.Ytjlmlafiojpjmaa
open Go.RowKit
set_option maxRecDepth 100000
set_option maxHeartbeats 4000000
def bAt (I : Inn) (P : Nat) : Int := I.b.getD P 0
def mayS (I : Inn) (p : Int) : Int :=
  if knownS I p = false then 3 else if vacantS I = false ∨ bAt I (p.toNat - 1) = 1 then 4 else if bAt I (p.toNat - 1) = 2 then 5 else 0
theorem InnR.bat {w : World} {V : Ls} {I : Inn} (h : InnR w V I) {P : Nat} (hP : P < I.b.length) : ∃ b off c, V.b = .slice (some ⟨b, off, none⟩) I.b.length c ∧ I.b.length ≤ c ∧ b < w.heap.size ∧ w.cell? ⟨b, off + P, none⟩ = some (.int .u8 (bAt I P)) := by
  have hx : (stC I.b)[P]? = some (.int .u8 (bAt I P)) := by
    unfold bAt
    rw [List.getD_eq_getElem?_getD, List.getElem?_eq_getElem hP]
    exact stC_at (List.getElem?_eq_getElem hP)
  rcases h.b with ⟨_, h2⟩ | ⟨b, off, c, h1, h2, h3, h4⟩ | ⟨_, _, _, h2⟩
  · rw [h2] at hx; simp at hx
  · rw [stC_len] at h1 h2
    exact ⟨b, off, c, h1, h2, h3, h4 P _ hx⟩
  · rw [h2] at hx; simp at hx
theorem may_p (I : Inn) (V : Ls) (p q : Int) (w : World) (hl : I.Few) (hV : InnR w V I) (hq : mayS I p = q) :
    Calls Try.prog 30 #[.agg (I.cells V).toArray, .int .i64 p] w fun e w' => e = .returned (.int .i64 q) ∧ Below w.heap.size w w' := by
  have HL := Lib.hid hl
  have HV := Lib.hid hV
  clear hl hV
  cases hk : knownS I p
  · have HQ := Lib.hid (show (3 : Int) = q by rw [← hq]; unfold mayS; rw [hk]; rfl)
    have HK := Lib.hid hk
    clear hk hq
    have HB := Lib.hid (cur_new w (.cells (I.cells V).toArray 32))
    have HI := Lib.hid (Blk.new w 32 (I.cells V))
    obtain ⟨w0, hw0⟩ : ∃ y, w.alloc (.cells (I.cells V).toArray 32) = y := ⟨_, rfl⟩
    rw [hw0] at HB HI
    have S0 := Lib.hid hw0
    clear hw0
    go_enter Try.func30, Try.ntmps30
    go_wp2_with (first
      | rw [S0.out]
      | (refine wpList_load_row rfl 32 _ rfl w.heap.size (by rfl) 32 (I.cells V).toArray (0, 0) _ HI.out Try.underlying32 rfl inn_info ?_)
      | (refine wpList_load_g (by rfl) 32 _ rfl w.heap.size (by rfl) 32 (I.cells V).toArray (0, 0) _ HI.out Try.underlying32 rfl inn_info ?_))
    refine (known_f I V p _ _ HL.out (HV.out.to HB.out) HK.out).mono ?_
    rintro e wx ⟨rfl, hbx⟩
    have HI := Lib.hid (HI.out.to hbx)
    have HB := Lib.hid (cur_step1 HB.out hbx)
    clear hbx
    go_wp2_with (fail)
    go_ret
    exact ⟨ret_int HQ.out, HB.out⟩
  · have HK := Lib.hid hk
    cases hv : vacantS I
    · have HQ := Lib.hid (show (4 : Int) = q by rw [← hq]; unfold mayS; rw [hk, hv]; rfl)
      have HVC := Lib.hid hv
      clear hk hv hq
      have HB := Lib.hid (cur_new w (.cells (I.cells V).toArray 32))
      have HI := Lib.hid (Blk.new w 32 (I.cells V))
      obtain ⟨w0, hw0⟩ : ∃ y, w.alloc (.cells (I.cells V).toArray 32) = y := ⟨_, rfl⟩
      rw [hw0] at HB HI
      have S0 := Lib.hid hw0
      clear hw0
      go_enter Try.func30, Try.ntmps30
      go_wp2_with (first
        | rw [S0.out]
        | (refine wpList_load_row rfl 32 _ rfl w.heap.size (by rfl) 32 (I.cells V).toArray (0, 0) _ HI.out Try.underlying32 rfl inn_info ?_)
        | (refine wpList_load_g (by rfl) 32 _ rfl w.heap.size (by rfl) 32 (I.cells V).toArray (0, 0) _ HI.out Try.underlying32 rfl inn_info ?_))
      refine (known_f I V p _ _ HL.out (HV.out.to HB.out) HK.out).mono ?_
      rintro e wx ⟨rfl, hbx⟩
      have HI := Lib.hid (HI.out.to hbx)
      have HB := Lib.hid (cur_step1 HB.out hbx)
      clear hbx
      go_wp2_with (first
        | rw [S0.out]
        | (refine wpList_load_row rfl 32 _ rfl w.heap.size (by rfl) 32 (I.cells V).toArray (0, 0) _ HI.out Try.underlying32 rfl inn_info ?_)
        | (refine wpList_load_g (by rfl) 32 _ rfl w.heap.size (by rfl) 32 (I.cells V).toArray (0, 0) _ HI.out Try.underlying32 rfl inn_info ?_))
      refine (vacant_f I V _ _ HL.out (HV.out.to HB.out) HVC.out).mono ?_
      rintro e wx ⟨rfl, hbx⟩
      have HI := Lib.hid (HI.out.to hbx)
      have HB := Lib.hid (cur_step1 HB.out hbx)
      clear hbx
      go_wp2_with (fail)
      go_ret
      exact ⟨ret_int HQ.out, HB.out⟩
    · have HVC := Lib.hid hv
      obtain ⟨P, hp, hPl⟩ := known_nat hk
      have hn : I.b.length ≤ 1000 := HL.out.b
      obtain ⟨n, hnn⟩ : ∃ n, I.b.length = n := ⟨_, rfl⟩
      rw [hnn] at hPl hn
      have hP1 : p.toNat - 1 = P := by omega
      obtain ⟨x, hx⟩ : ∃ x, bAt I P = x := ⟨_, rfl⟩
      have HX := Lib.hid hx
      have HNN := Lib.hid hnn
      have hq2 : (if x = 1 then 4 else if x = 2 then 5 else 0) = q := by
        rw [← hq]
        unfold mayS
        rw [hk, hv, hP1, hx]
        simp
      clear hk hv hq hx hnn hP1
      subst hp
      by_cases h1 : x = 1
      · subst h1
        have HQ := Lib.hid (show (4 : Int) = q by rw [← hq2]; simp [*])
        clear hq2
        have HB := Lib.hid (cur_new w (.cells (I.cells V).toArray 32))
        have HI := Lib.hid (Blk.new w 32 (I.cells V))
        obtain ⟨w0, hw0⟩ : ∃ y, w.alloc (.cells (I.cells V).toArray 32) = y := ⟨_, rfl⟩
        rw [hw0] at HB HI
        have S0 := Lib.hid hw0
        clear hw0
        go_enter Try.func30, Try.ntmps30
        go_wp2_with (first
          | rw [S0.out]
          | (refine wpList_load_row rfl 32 _ rfl w.heap.size (by rfl) 32 (I.cells V).toArray (0, 0) _ HI.out Try.underlying32 rfl inn_info ?_)
          | (refine wpList_load_g (by rfl) 32 _ rfl w.heap.size (by rfl) 32 (I.cells V).toArray (0, 0) _ HI.out Try.underlying32 rfl inn_info ?_))
        refine (known_f I V (P + 1) _ _ HL.out (HV.out.to HB.out) HK.out).mono ?_
        rintro e wx ⟨rfl, hbx⟩
        have HI := Lib.hid (HI.out.to hbx)
        have HB := Lib.hid (cur_step1 HB.out hbx)
        clear hbx
        go_wp2_with (first
          | rw [S0.out]
          | (refine wpList_load_row rfl 32 _ rfl w.heap.size (by rfl) 32 (I.cells V).toArray (0, 0) _ HI.out Try.underlying32 rfl inn_info ?_)
          | (refine wpList_load_g (by rfl) 32 _ rfl w.heap.size (by rfl) 32 (I.cells V).toArray (0, 0) _ HI.out Try.underlying32 rfl inn_info ?_))
        refine (vacant_f I V _ _ HL.out (HV.out.to HB.out) HVC.out).mono ?_
        rintro e wx ⟨rfl, hbx⟩
        have HI := Lib.hid (HI.out.to hbx)
        have HB := Lib.hid (cur_step1 HB.out hbx)
        clear hbx
        obtain ⟨b, off, c, hVb, hc, hbl, hcell⟩ := (HV.out.to HB.out).bat (P := P) (by rw [HNN.out]; exact hPl)
        rw [HNN.out] at hVb hc
        rw [HX.out] at hcell
        have c14 : wx.cell? ⟨w.heap.size, 14, none⟩ = some (.slice (some ⟨b, off, none⟩) n c) := by rw [← hVb]; exact HI.out.cell 14
        have hPc : P < c := by omega
        clear hVb
        go_wp2_with (fail)
        go_ret
        exact ⟨ret_int HQ.out, HB.out⟩
      · have g1 : (x == 1) = false := by simpa using h1
        by_cases h2 : x = 2
        · subst h2
          have HQ := Lib.hid (show (5 : Int) = q by rw [← hq2]; simp [*])
          clear hq2
          have HB := Lib.hid (cur_new w (.cells (I.cells V).toArray 32))
          have HI := Lib.hid (Blk.new w 32 (I.cells V))
          obtain ⟨w0, hw0⟩ : ∃ y, w.alloc (.cells (I.cells V).toArray 32) = y := ⟨_, rfl⟩
          rw [hw0] at HB HI
          have S0 := Lib.hid hw0
          clear hw0
          go_enter Try.func30, Try.ntmps30
          go_wp2_with (first
            | rw [S0.out]
            | (refine wpList_load_row rfl 32 _ rfl w.heap.size (by rfl) 32 (I.cells V).toArray (0, 0) _ HI.out Try.underlying32 rfl inn_info ?_)
            | (refine wpList_load_g (by rfl) 32 _ rfl w.heap.size (by rfl) 32 (I.cells V).toArray (0, 0) _ HI.out Try.underlying32 rfl inn_info ?_))
          refine (known_f I V (P + 1) _ _ HL.out (HV.out.to HB.out) HK.out).mono ?_
          rintro e wx ⟨rfl, hbx⟩
          have HI := Lib.hid (HI.out.to hbx)
          have HB := Lib.hid (cur_step1 HB.out hbx)
          clear hbx
          go_wp2_with (first
            | rw [S0.out]
            | (refine wpList_load_row rfl 32 _ rfl w.heap.size (by rfl) 32 (I.cells V).toArray (0, 0) _ HI.out Try.underlying32 rfl inn_info ?_)
            | (refine wpList_load_g (by rfl) 32 _ rfl w.heap.size (by rfl) 32 (I.cells V).toArray (0, 0) _ HI.out Try.underlying32 rfl inn_info ?_))
          refine (vacant_f I V _ _ HL.out (HV.out.to HB.out) HVC.out).mono ?_
          rintro e wx ⟨rfl, hbx⟩
          have HI := Lib.hid (HI.out.to hbx)
          have HB := Lib.hid (cur_step1 HB.out hbx)
          clear hbx
          obtain ⟨b, off, c, hVb, hc, hbl, hcell⟩ := (HV.out.to HB.out).bat (P := P) (by rw [HNN.out]; exact hPl)
          rw [HNN.out] at hVb hc
          rw [HX.out] at hcell
          have c14 : wx.cell? ⟨w.heap.size, 14, none⟩ = some (.slice (some ⟨b, off, none⟩) n c) := by rw [← hVb]; exact HI.out.cell 14
          have hPc : P < c := by omega
          clear hVb
          go_wp2_with (fail)
          go_ret
          exact ⟨ret_int HQ.out, HB.out⟩
        · have g2 : (x == 2) = false := by simpa using h2
          have HQ := Lib.hid (show (0 : Int) = q by rw [← hq2]; rw [if_neg h1, if_neg h2])
          clear hq2
          have HB := Lib.hid (cur_new w (.cells (I.cells V).toArray 32))
          have HI := Lib.hid (Blk.new w 32 (I.cells V))
          obtain ⟨w0, hw0⟩ : ∃ y, w.alloc (.cells (I.cells V).toArray 32) = y := ⟨_, rfl⟩
          rw [hw0] at HB HI
          have S0 := Lib.hid hw0
          clear hw0
          go_enter Try.func30, Try.ntmps30
          go_wp2_with (first
            | rw [S0.out]
            | (refine wpList_load_row rfl 32 _ rfl w.heap.size (by rfl) 32 (I.cells V).toArray (0, 0) _ HI.out Try.underlying32 rfl inn_info ?_)
            | (refine wpList_load_g (by rfl) 32 _ rfl w.heap.size (by rfl) 32 (I.cells V).toArray (0, 0) _ HI.out Try.underlying32 rfl inn_info ?_))
          refine (known_f I V (P + 1) _ _ HL.out (HV.out.to HB.out) HK.out).mono ?_
          rintro e wx ⟨rfl, hbx⟩
          have HI := Lib.hid (HI.out.to hbx)
          have HB := Lib.hid (cur_step1 HB.out hbx)
          clear hbx
          go_wp2_with (first
            | rw [S0.out]
            | (refine wpList_load_row rfl 32 _ rfl w.heap.size (by rfl) 32 (I.cells V).toArray (0, 0) _ HI.out Try.underlying32 rfl inn_info ?_)
            | (refine wpList_load_g (by rfl) 32 _ rfl w.heap.size (by rfl) 32 (I.cells V).toArray (0, 0) _ HI.out Try.underlying32 rfl inn_info ?_))
          refine (vacant_f I V _ _ HL.out (HV.out.to HB.out) HVC.out).mono ?_
          rintro e wx ⟨rfl, hbx⟩
          have HI := Lib.hid (HI.out.to hbx)
          have HB := Lib.hid (cur_step1 HB.out hbx)
          clear hbx
          obtain ⟨b, off, c, hVb, hc, hbl, hcell⟩ := (HV.out.to HB.out).bat (P := P) (by rw [HNN.out]; exact hPl)
          rw [HNN.out] at hVb hc
          rw [HX.out] at hcell
          have c14 : wx.cell? ⟨w.heap.size, 14, none⟩ = some (.slice (some ⟨b, off, none⟩) n c) := by rw [← hVb]; exact HI.out.cell 14
          have hPc : P < c := by omega
          clear hVb
          go_wp2_with (fail)
          go_ret
          exact ⟨ret_int HQ.out, HB.out⟩
theorem may_zero {I : Inn} {p : Int} (h : mayS I p = 0) : knownS I p = true ∧ bAt I (p.toNat - 1) ≠ 1 ∧ bAt I (p.toNat - 1) ≠ 2 ∧ vacantS I = true := by
  unfold mayS at h
  split at h
  · simp at h
  · rename_i h1
    split at h
    · simp at h
    · rename_i h2
      split at h
      · simp at h
      · rename_i h3
        rw [not_or] at h2
        exact ⟨by simpa using h1, h2.2, h3, by simpa using h2.1⟩
def entJ (I : Inn) (P : Nat) : Inn := if I.st = 0 then { I with b := I.b.set P 1, st := P + 1 } else { I with b := I.b.set P 1, ot := P + 1 }
def enterS (I : Inn) (p : Int) : Inn × Int := if mayS I p = 0 then (entJ I (p.toNat - 1), 0) else (I, mayS I p)
theorem enter_p (I : Inn) (V : Ls) (p : Int) (w : World) (hl : I.Few) (hV : InnR w V I) :
    Calls Try.prog 20 #[.agg (I.cells V).toArray, .int .i64 p] w fun e w' => ∃ U, e = .returned (.tuple #[.agg ((enterS I p).1.cells U).toArray, .int .i64 (enterS I p).2]) ∧ InnO w' w.heap.size U ((enterS I p).1) ∧ Below w.heap.size w w' := by
  have HL := Lib.hid hl
  have HV := Lib.hid hV
  clear hl hV
  obtain ⟨m, hm⟩ : ∃ m, mayS I p = m := ⟨_, rfl⟩
  have HM := Lib.hid hm
  by_cases h0 : m = 0
  · subst h0
    obtain ⟨hk, _, _, _⟩ := may_zero hm
    obtain ⟨P, hp, hPl⟩ := known_nat hk
    have HS := Lib.hid (show enterS I p = (entJ I P, 0) by unfold enterS; rw [if_pos hm, show p.toNat - 1 = P by omega])
    rw [HS.out]
    have hn : I.b.length ≤ 1000 := HL.out.b
    clear hk hm
    subst hp
    go_enter Try.func20, Try.ntmps20
    go_wp2_with (first
      | (refine wpList_load_row rfl 32 _ rfl w.heap.size (by rfl) 32 (I.cells V).toArray (0, 0) _ ((Blk.new w _ _).to (cur_new _ _)) Try.underlying32 rfl inn_info ?_))
    obtain ⟨hin, hre, hb0⟩ := entry2 w (I.cells V) [.int .i64 0, .int .i64 0, .int .i64 0, .int .i64 0, .int .i64 0, .int .i64 0, .int .i64 0, .int .i64 0, .int .i64 0, .int .i64 0, .int .i64 0, .int .i64 0, .int .i64 0, .int .i64 0, .slice none 0 0, .int .i64 0, .slice none 0 0, .slice none 0 0, .bool false, .slice none 0 0, .bool false, .int .i64 0, .int .i64 0, .int .i64 0, .slice none 0 0, .int .i64 0, .int .i64 0, .int .u8 0] 32 32
    generalize (w.alloc (Obj.cells (I.cells V).toArray 32)).alloc (Obj.cells [.int .i64 0, .int .i64 0, .int .i64 0, .int .i64 0, .int .i64 0, .int .i64 0, .int .i64 0, .int .i64 0, .int .i64 0, .int .i64 0, .int .i64 0, .int .i64 0, .int .i64 0, .int .i64 0, .slice none 0 0, .int .i64 0, .slice none 0 0, .slice none 0 0, .bool false, .slice none 0 0, .bool false, .int .i64 0, .int .i64 0, .int .i64 0, .slice none 0 0, .int .i64 0, .int .i64 0, .int .u8 0].toArray 32) = w0 at hin hre hb0 ⊢
    refine (own_f I V w0 HL.out (HV.out.to hb0)).mono ?_
    rintro e w1 ⟨U, rfl, ho, hb1⟩
    have HC := Lib.hid (Cs.start hin hre hb0 (by omega) (Nat.le_refl _) (by omega) ho hb1)
    have HON := Lib.hid ho.ones
    clear hin hre hb0 ho hb1
    obtain ⟨w2, hw2⟩ : ∃ y, w1.alloc (.cells (I.cells U).toArray 32) = y := ⟨_, rfl⟩
    rw [hw2] at HC
    have S2 := Lib.hid hw2
    clear hw2
    go_upto_region 2 with (refine wpList_storeNew rfl _ _ 32 rfl _ (I.cells U).toArray inn_info (by rfl) (by rfl) rfl (Inn.one _ HON.out) ?_; rw [S2.out])
    obtain ⟨G, hG⟩ : ∃ y, w1.heap.size = y := ⟨_, rfl⟩
    rw [hG] at HC ⊢
    clear S2 hG
    go_wp2_with (first
      | (refine wpList_load_row rfl 32 _ rfl w.heap.size (by rfl) 32 (I.cells V).toArray (0, 0) _ HC.out.inn Try.underlying32 rfl inn_info ?_)
      | (refine wpList_load_g (by rfl) 32 _ rfl w.heap.size (by rfl) 32 (I.cells V).toArray (0, 0) _ HC.out.inn Try.underlying32 rfl inn_info ?_)
      | (refine wpList_load_row rfl 32 _ rfl G (by rfl) 32 ((I).cells U).toArray (0, 0) _ HC.out.aft Try.underlying32 rfl inn_info ?_)
      | (refine wpList_storeC rfl _ _ 32 rfl (w.heap.size + 1) 32 zeroL ((I).cells U).toArray inn_info (by rfl) (by rfl) HC.out.res rfl (Inn.one _ HON.out) ?_))
    refine (may_p I V (P + 1) _ _ HL.out (HV.out.to HC.out.bel) HM.out).mono ?_
    rintro e wx ⟨rfl, hbx⟩
    have HC := Lib.hid (HC.out.to hbx)
    clear hbx
    rename World => w3
    obtain ⟨b, k, hVb, hk, hbb, hbl⟩ := HC.out.own.blk (by omega)
    obtain ⟨n, hnn⟩ : ∃ n, I.b.length = n := ⟨_, rfl⟩
    have hVn := hVb
    rw [hnn] at hVn hk hPl hn
    have c14 := HC.out.lb hVn
    obtain ⟨⟨x1, c1⟩, f1⟩ := HC.out.bat hVb (P := P) (by omega)
    have HC4 := Lib.hid (HC.out.setB hVb P 1)
    have e12 := HC4.out.st
    have e13 := HC4.out.ot
    have e2 := HC4.out.fr 12
    have e3 := HC4.out.fr 13
    dsimp only at e12 e13
    have hPk : P < k := by omega
    clear hVb hVn hnn
    obtain ⟨st0, hst⟩ : ∃ y, I.st = y := ⟨_, rfl⟩
    rw [hst] at e12
    have HST := Lib.hid hst
    clear hst
    by_cases hs : st0 = 0
    · have HC := Lib.hid (show Cs w _ w.heap.size (w.heap.size + 1) G V I U (entJ I P) from by have := HC4.out.setSt (P + 1); unfold entJ; rw [if_pos (by rw [HST.out]; exact hs)]; exact this)
      subst hs
      clear HC4
      go_wp2_with (first
        | (refine wpList_load_row rfl 32 _ rfl w.heap.size (by rfl) 32 (I.cells V).toArray (0, 0) _ HC.out.inn Try.underlying32 rfl inn_info ?_)
        | (refine wpList_load_g (by rfl) 32 _ rfl w.heap.size (by rfl) 32 (I.cells V).toArray (0, 0) _ HC.out.inn Try.underlying32 rfl inn_info ?_)
        | (refine wpList_load_row rfl 32 _ rfl G (by rfl) 32 ((entJ I P).cells U).toArray (0, 0) _ HC.out.aft Try.underlying32 rfl inn_info ?_)
        | (refine wpList_storeC rfl _ _ 32 rfl (w.heap.size + 1) 32 zeroL ((entJ I P).cells U).toArray inn_info (by rfl) (by rfl) HC.out.res rfl (Inn.one _ HON.out) ?_))
      obtain ⟨f1, f2, f3⟩ := HC.out.fin
      refine ret_cell2 (g := w.heap.size + 1) (xs := (entJ I P).cells U) rfl rfl rfl f1 Try.underlying32 rfl inn_info rfl ?_
      exact ⟨U, rfl, f2, f3⟩
    · have g0 : (st0 == 0) = false := by simpa using hs
      have HC := Lib.hid (show Cs w _ w.heap.size (w.heap.size + 1) G V I U (entJ I P) from by have := HC4.out.setOt (P + 1); unfold entJ; rw [if_neg (by rw [HST.out]; exact hs)]; exact this)
      clear HC4 hs
      go_wp2_with (first
        | (refine wpList_load_row rfl 32 _ rfl w.heap.size (by rfl) 32 (I.cells V).toArray (0, 0) _ HC.out.inn Try.underlying32 rfl inn_info ?_)
        | (refine wpList_load_g (by rfl) 32 _ rfl w.heap.size (by rfl) 32 (I.cells V).toArray (0, 0) _ HC.out.inn Try.underlying32 rfl inn_info ?_)
        | (refine wpList_load_row rfl 32 _ rfl G (by rfl) 32 ((entJ I P).cells U).toArray (0, 0) _ HC.out.aft Try.underlying32 rfl inn_info ?_)
        | (refine wpList_storeC rfl _ _ 32 rfl (w.heap.size + 1) 32 zeroL ((entJ I P).cells U).toArray inn_info (by rfl) (by rfl) HC.out.res rfl (Inn.one _ HON.out) ?_))
      obtain ⟨f1, f2, f3⟩ := HC.out.fin
      refine ret_cell2 (g := w.heap.size + 1) (xs := (entJ I P).cells U) rfl rfl rfl f1 Try.underlying32 rfl inn_info rfl ?_
      exact ⟨U, rfl, f2, f3⟩
  · have HS := Lib.hid (show enterS I p = (I, m) by unfold enterS; rw [if_neg (by rw [hm]; exact h0), hm])
    rw [HS.out]
    have g0 : (m != 0) = true := by simpa using h0
    clear h0 hm
    go_enter Try.func20, Try.ntmps20
    go_wp2_with (first
      | (refine wpList_load_row rfl 32 _ rfl w.heap.size (by rfl) 32 (I.cells V).toArray (0, 0) _ ((Blk.new w _ _).to (cur_new _ _)) Try.underlying32 rfl inn_info ?_))
    obtain ⟨hin, hre, hb0⟩ := entry2 w (I.cells V) [.int .i64 0, .int .i64 0, .int .i64 0, .int .i64 0, .int .i64 0, .int .i64 0, .int .i64 0, .int .i64 0, .int .i64 0, .int .i64 0, .int .i64 0, .int .i64 0, .int .i64 0, .int .i64 0, .slice none 0 0, .int .i64 0, .slice none 0 0, .slice none 0 0, .bool false, .slice none 0 0, .bool false, .int .i64 0, .int .i64 0, .int .i64 0, .slice none 0 0, .int .i64 0, .int .i64 0, .int .u8 0] 32 32
    generalize (w.alloc (Obj.cells (I.cells V).toArray 32)).alloc (Obj.cells [.int .i64 0, .int .i64 0, .int .i64 0, .int .i64 0, .int .i64 0, .int .i64 0, .int .i64 0, .int .i64 0, .int .i64 0, .int .i64 0, .int .i64 0, .int .i64 0, .int .i64 0, .int .i64 0, .slice none 0 0, .int .i64 0, .slice none 0 0, .slice none 0 0, .bool false, .slice none 0 0, .bool false, .int .i64 0, .int .i64 0, .int .i64 0, .slice none 0 0, .int .i64 0, .int .i64 0, .int .u8 0].toArray 32) = w0 at hin hre hb0 ⊢
    refine (own_f I V w0 HL.out (HV.out.to hb0)).mono ?_
    rintro e w1 ⟨U, rfl, ho, hb1⟩
    have HC := Lib.hid (Cs.start hin hre hb0 (by omega) (Nat.le_refl _) (by omega) ho hb1)
    have HON := Lib.hid ho.ones
    clear hin hre hb0 ho hb1
    obtain ⟨w2, hw2⟩ : ∃ y, w1.alloc (.cells (I.cells U).toArray 32) = y := ⟨_, rfl⟩
    rw [hw2] at HC
    have S2 := Lib.hid hw2
    clear hw2
    go_upto_region 2 with (refine wpList_storeNew rfl _ _ 32 rfl _ (I.cells U).toArray inn_info (by rfl) (by rfl) rfl (Inn.one _ HON.out) ?_; rw [S2.out])
    obtain ⟨G, hG⟩ : ∃ y, w1.heap.size = y := ⟨_, rfl⟩
    rw [hG] at HC ⊢
    clear S2 hG
    go_wp2_with (first
      | (refine wpList_load_row rfl 32 _ rfl w.heap.size (by rfl) 32 (I.cells V).toArray (0, 0) _ HC.out.inn Try.underlying32 rfl inn_info ?_)
      | (refine wpList_load_g (by rfl) 32 _ rfl w.heap.size (by rfl) 32 (I.cells V).toArray (0, 0) _ HC.out.inn Try.underlying32 rfl inn_info ?_)
      | (refine wpList_load_row rfl 32 _ rfl G (by rfl) 32 ((I).cells U).toArray (0, 0) _ HC.out.aft Try.underlying32 rfl inn_info ?_)
      | (refine wpList_storeC rfl _ _ 32 rfl (w.heap.size + 1) 32 zeroL ((I).cells U).toArray inn_info (by rfl) (by rfl) HC.out.res rfl (Inn.one _ HON.out) ?_))
    refine (may_p I V p _ _ HL.out (HV.out.to HC.out.bel) HM.out).mono ?_
    rintro e wx ⟨rfl, hbx⟩
    have HC := Lib.hid (HC.out.to hbx)
    clear hbx
    go_wp2_with (first
      | (refine wpList_load_row rfl 32 _ rfl w.heap.size (by rfl) 32 (I.cells V).toArray (0, 0) _ HC.out.inn Try.underlying32 rfl inn_info ?_)
      | (refine wpList_load_g (by rfl) 32 _ rfl w.heap.size (by rfl) 32 (I.cells V).toArray (0, 0) _ HC.out.inn Try.underlying32 rfl inn_info ?_)
      | (refine wpList_load_row rfl 32 _ rfl G (by rfl) 32 ((I).cells U).toArray (0, 0) _ HC.out.aft Try.underlying32 rfl inn_info ?_)
      | (refine wpList_storeC rfl _ _ 32 rfl (w.heap.size + 1) 32 zeroL ((I).cells U).toArray inn_info (by rfl) (by rfl) HC.out.res rfl (Inn.one _ HON.out) ?_))
    obtain ⟨f1, f2, f3⟩ := HC.out.fin
    refine ret_cell2 (g := w.heap.size + 1) (xs := (I).cells U) rfl rfl rfl f1 Try.underlying32 rfl inn_info rfl ?_
    exact ⟨U, rfl, f2, f3⟩
def timeoutS (I : Inn) (p : Int) : Inn × Int := if mayS I p = 0 then (dismissS I p, 0) else (I, mayS I p)
theorem timeout_p (I : Inn) (V : Ls) (p : Int) (w : World) (hl : I.Few) (hV : InnR w V I) :
    Calls Try.prog 25 #[.agg (I.cells V).toArray, .int .i64 p] w fun e w' => ∃ U, e = .returned (.tuple #[.agg ((timeoutS I p).1.cells U).toArray, .int .i64 (timeoutS I p).2]) ∧ InnO w' w.heap.size U ((timeoutS I p).1) ∧ Below w.heap.size w w' := by
  have HL := Lib.hid hl
  have HV := Lib.hid hV
  clear hl hV
  obtain ⟨m, hm⟩ : ∃ m, mayS I p = m := ⟨_, rfl⟩
  have HM := Lib.hid hm
  by_cases h0 : m = 0
  · subst h0
    have HS := Lib.hid (show timeoutS I p = (dismissS I p, 0) by unfold timeoutS; rw [if_pos hm])
    rw [HS.out]
    clear hm
    go_enter Try.func25, Try.ntmps25
    go_wp2_with (first
      | (refine wpList_load_row rfl 32 _ rfl w.heap.size (by rfl) 32 (I.cells V).toArray (0, 0) _ ((Blk.new w _ _).to (cur_new _ _)) Try.underlying32 rfl inn_info ?_))
    obtain ⟨hin, hre, hb0⟩ := entry2 w (I.cells V) [.int .i64 0, .int .i64 0, .int .i64 0, .int .i64 0, .int .i64 0, .int .i64 0, .int .i64 0, .int .i64 0, .int .i64 0, .int .i64 0, .int .i64 0, .int .i64 0, .int .i64 0, .int .i64 0, .slice none 0 0, .int .i64 0, .slice none 0 0, .slice none 0 0, .bool false, .slice none 0 0, .bool false, .int .i64 0, .int .i64 0, .int .i64 0, .slice none 0 0, .int .i64 0, .int .i64 0, .int .u8 0] 32 32
    generalize (w.alloc (Obj.cells (I.cells V).toArray 32)).alloc (Obj.cells [.int .i64 0, .int .i64 0, .int .i64 0, .int .i64 0, .int .i64 0, .int .i64 0, .int .i64 0, .int .i64 0, .int .i64 0, .int .i64 0, .int .i64 0, .int .i64 0, .int .i64 0, .int .i64 0, .slice none 0 0, .int .i64 0, .slice none 0 0, .slice none 0 0, .bool false, .slice none 0 0, .bool false, .int .i64 0, .int .i64 0, .int .i64 0, .slice none 0 0, .int .i64 0, .int .i64 0, .int .u8 0].toArray 32) = w0 at hin hre hb0 ⊢
    refine (own_f I V w0 HL.out (HV.out.to hb0)).mono ?_
    rintro e w1 ⟨U, rfl, ho, hb1⟩
    have HC := Lib.hid (Cs.start hin hre hb0 (by omega) (Nat.le_refl _) (by omega) ho hb1)
    have HON := Lib.hid ho.ones
    clear hin hre hb0 ho hb1
    obtain ⟨w2, hw2⟩ : ∃ y, w1.alloc (.cells (I.cells U).toArray 32) = y := ⟨_, rfl⟩
    rw [hw2] at HC
    have S2 := Lib.hid hw2
    clear hw2
    go_upto_region 2 with (refine wpList_storeNew rfl _ _ 32 rfl _ (I.cells U).toArray inn_info (by rfl) (by rfl) rfl (Inn.one _ HON.out) ?_; rw [S2.out])
    obtain ⟨G, hG⟩ : ∃ y, w1.heap.size = y := ⟨_, rfl⟩
    rw [hG] at HC ⊢
    clear S2 hG
    go_wp2_with (first
      | (refine wpList_load_row rfl 32 _ rfl w.heap.size (by rfl) 32 (I.cells V).toArray (0, 0) _ HC.out.inn Try.underlying32 rfl inn_info ?_)
      | (refine wpList_load_g (by rfl) 32 _ rfl w.heap.size (by rfl) 32 (I.cells V).toArray (0, 0) _ HC.out.inn Try.underlying32 rfl inn_info ?_)
      | (refine wpList_load_row rfl 32 _ rfl G (by rfl) 32 ((I).cells U).toArray (0, 0) _ HC.out.aft Try.underlying32 rfl inn_info ?_)
      | (refine wpList_storeC rfl _ _ 32 rfl (w.heap.size + 1) 32 zeroL ((I).cells U).toArray inn_info (by rfl) (by rfl) HC.out.res rfl (Inn.one _ HON.out) ?_))
    refine (may_p I V p _ _ HL.out (HV.out.to HC.out.bel) HM.out).mono ?_
    rintro e wx ⟨rfl, hbx⟩
    have HC := Lib.hid (HC.out.to hbx)
    clear hbx
    go_wp2_with (first
      | (refine wpList_load_row rfl 32 _ rfl w.heap.size (by rfl) 32 (I.cells V).toArray (0, 0) _ HC.out.inn Try.underlying32 rfl inn_info ?_)
      | (refine wpList_load_g (by rfl) 32 _ rfl w.heap.size (by rfl) 32 (I.cells V).toArray (0, 0) _ HC.out.inn Try.underlying32 rfl inn_info ?_)
      | (refine wpList_load_row rfl 32 _ rfl G (by rfl) 32 ((I).cells U).toArray (0, 0) _ HC.out.aft Try.underlying32 rfl inn_info ?_)
      | (refine wpList_storeC rfl _ _ 32 rfl (w.heap.size + 1) 32 zeroL ((I).cells U).toArray inn_info (by rfl) (by rfl) HC.out.res rfl (Inn.one _ HON.out) ?_))
    refine (dismiss_f (I) U p G w.heap.size _ HL.out HC.out.aft HC.out.own HC.out.awa).mono ?_
    rintro e wd ⟨rfl, hd1, hd2, hd3⟩
    have HC := Lib.hid (HC.out.dis hd1 hd2 hd3)
    clear hd1 hd2 hd3
    go_wp2_with (first
      | (refine wpList_load_row rfl 32 _ rfl w.heap.size (by rfl) 32 (I.cells V).toArray (0, 0) _ HC.out.inn Try.underlying32 rfl inn_info ?_)
      | (refine wpList_load_g (by rfl) 32 _ rfl w.heap.size (by rfl) 32 (I.cells V).toArray (0, 0) _ HC.out.inn Try.underlying32 rfl inn_info ?_)
      | (refine wpList_load_row rfl 32 _ rfl G (by rfl) 32 ((dismissS I p).cells U).toArray (0, 0) _ HC.out.aft Try.underlying32 rfl inn_info ?_)
      | (refine wpList_storeC rfl _ _ 32 rfl (w.heap.size + 1) 32 zeroL ((dismissS I p).cells U).toArray inn_info (by rfl) (by rfl) HC.out.res rfl (Inn.one _ HON.out) ?_))
    obtain ⟨f1, f2, f3⟩ := HC.out.fin
    refine ret_cell2 (g := w.heap.size + 1) (xs := (dismissS I p).cells U) rfl rfl rfl f1 Try.underlying32 rfl inn_info rfl ?_
    exact ⟨U, rfl, f2, f3⟩
  · have HS := Lib.hid (show timeoutS I p = (I, m) by unfold timeoutS; rw [if_neg (by rw [hm]; exact h0), hm])
    rw [HS.out]
    have g0 : (m != 0) = true := by simpa using h0
    clear h0 hm
    go_enter Try.func25, Try.ntmps25
    go_wp2_with (first
      | (refine wpList_load_row rfl 32 _ rfl w.heap.size (by rfl) 32 (I.cells V).toArray (0, 0) _ ((Blk.new w _ _).to (cur_new _ _)) Try.underlying32 rfl inn_info ?_))
    obtain ⟨hin, hre, hb0⟩ := entry2 w (I.cells V) [.int .i64 0, .int .i64 0, .int .i64 0, .int .i64 0, .int .i64 0, .int .i64 0, .int .i64 0, .int .i64 0, .int .i64 0, .int .i64 0, .int .i64 0, .int .i64 0, .int .i64 0, .int .i64 0, .slice none 0 0, .int .i64 0, .slice none 0 0, .slice none 0 0, .bool false, .slice none 0 0, .bool false, .int .i64 0, .int .i64 0, .int .i64 0, .slice none 0 0, .int .i64 0, .int .i64 0, .int .u8 0] 32 32
    generalize (w.alloc (Obj.cells (I.cells V).toArray 32)).alloc (Obj.cells [.int .i64 0, .int .i64 0, .int .i64 0, .int .i64 0, .int .i64 0, .int .i64 0, .int .i64 0, .int .i64 0, .int .i64 0, .int .i64 0, .int .i64 0, .int .i64 0, .int .i64 0, .int .i64 0, .slice none 0 0, .int .i64 0, .slice none 0 0, .slice none 0 0, .bool false, .slice none 0 0, .bool false, .int .i64 0, .int .i64 0, .int .i64 0, .slice none 0 0, .int .i64 0, .int .i64 0, .int .u8 0].toArray 32) = w0 at hin hre hb0 ⊢
    refine (own_f I V w0 HL.out (HV.out.to hb0)).mono ?_
    rintro e w1 ⟨U, rfl, ho, hb1⟩
    have HC := Lib.hid (Cs.start hin hre hb0 (by omega) (Nat.le_refl _) (by omega) ho hb1)
    have HON := Lib.hid ho.ones
    clear hin hre hb0 ho hb1
    obtain ⟨w2, hw2⟩ : ∃ y, w1.alloc (.cells (I.cells U).toArray 32) = y := ⟨_, rfl⟩
    rw [hw2] at HC
    have S2 := Lib.hid hw2
    clear hw2
    go_upto_region 2 with (refine wpList_storeNew rfl _ _ 32 rfl _ (I.cells U).toArray inn_info (by rfl) (by rfl) rfl (Inn.one _ HON.out) ?_; rw [S2.out])
    obtain ⟨G, hG⟩ : ∃ y, w1.heap.size = y := ⟨_, rfl⟩
    rw [hG] at HC ⊢
    clear S2 hG
    go_wp2_with (first
      | (refine wpList_load_row rfl 32 _ rfl w.heap.size (by rfl) 32 (I.cells V).toArray (0, 0) _ HC.out.inn Try.underlying32 rfl inn_info ?_)
      | (refine wpList_load_g (by rfl) 32 _ rfl w.heap.size (by rfl) 32 (I.cells V).toArray (0, 0) _ HC.out.inn Try.underlying32 rfl inn_info ?_)
      | (refine wpList_load_row rfl 32 _ rfl G (by rfl) 32 ((I).cells U).toArray (0, 0) _ HC.out.aft Try.underlying32 rfl inn_info ?_)
      | (refine wpList_storeC rfl _ _ 32 rfl (w.heap.size + 1) 32 zeroL ((I).cells U).toArray inn_info (by rfl) (by rfl) HC.out.res rfl (Inn.one _ HON.out) ?_))
    refine (may_p I V p _ _ HL.out (HV.out.to HC.out.bel) HM.out).mono ?_
    rintro e wx ⟨rfl, hbx⟩
    have HC := Lib.hid (HC.out.to hbx)
    clear hbx
    go_wp2_with (first
      | (refine wpList_load_row rfl 32 _ rfl w.heap.size (by rfl) 32 (I.cells V).toArray (0, 0) _ HC.out.inn Try.underlying32 rfl inn_info ?_)
      | (refine wpList_load_g (by rfl) 32 _ rfl w.heap.size (by rfl) 32 (I.cells V).toArray (0, 0) _ HC.out.inn Try.underlying32 rfl inn_info ?_)
      | (refine wpList_load_row rfl 32 _ rfl G (by rfl) 32 ((I).cells U).toArray (0, 0) _ HC.out.aft Try.underlying32 rfl inn_info ?_)
      | (refine wpList_storeC rfl _ _ 32 rfl (w.heap.size + 1) 32 zeroL ((I).cells U).toArray inn_info (by rfl) (by rfl) HC.out.res rfl (Inn.one _ HON.out) ?_))
    obtain ⟨f1, f2, f3⟩ := HC.out.fin
    refine ret_cell2 (g := w.heap.size + 1) (xs := (I).cells U) rfl rfl rfl f1 Try.underlying32 rfl inn_info rfl ?_
    exact ⟨U, rfl, f2, f3⟩
end Go.Proofs.Ytjlmlafiojpjmaa
