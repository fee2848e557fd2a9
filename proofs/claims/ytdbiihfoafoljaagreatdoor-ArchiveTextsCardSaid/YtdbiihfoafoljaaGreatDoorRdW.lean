/-
  Chapter 7: the reader of symbols: the part that tells of a dismissal.
-/
import Derived.Test.YtdbiihfoafoljaaGreatDoorRd
set_option linter.unusedSimpArgs false
set_option linter.unusedVariables false
namespace Go.Proofs.YtdbiihfoafoljaaGreatDoor
open Go.RowKit
set_option maxRecDepth 100000
set_option maxHeartbeats 4000000
/-- All blocks but b and h stand. -/
structure Oth2 (b h : Nat) (w w' : World) : Prop where
  os : w'.os = w.os
  tape : w'.tape = w.tape
  output : w'.output = w.output
  size : w.heap.size ≤ w'.heap.size
  block : ∀ k, k < w.heap.size → k ≠ b → k ≠ h → w'.heap[k]? = w.heap[k]?
theorem Oth2.refl (b h : Nat) (w : World) : Oth2 b h w w := ⟨rfl, rfl, rfl, Nat.le_refl _, fun _ _ _ _ => rfl⟩
theorem Oth2.one {b h : Nat} {w w1 w2 : World} (H : Oth2 b h w w1) (h2 : Oth b w1 w2) : Oth2 b h w w2 :=
  ⟨h2.os.trans H.os, h2.tape.trans H.tape, h2.output.trans H.output, Nat.le_trans H.size h2.size, fun k hk hne hne2 => (h2.block k (Nat.lt_of_lt_of_le hk H.size) hne).trans (H.block k hk hne hne2)⟩
theorem Oth2.two {b h : Nat} {w w1 w2 : World} (H : Oth2 b h w w1) (h2 : Oth h w1 w2) : Oth2 b h w w2 :=
  ⟨h2.os.trans H.os, h2.tape.trans H.tape, h2.output.trans H.output, Nat.le_trans H.size h2.size, fun k hk hne hne2 => (h2.block k (Nat.lt_of_lt_of_le hk H.size) hne2).trans (H.block k hk hne hne2)⟩
theorem Oth2.below {b h B : Nat} {w0 w w' : World} (H : Oth2 b h w w') (hb : Below B w0 w) (hB : B ≤ b) (hB2 : B ≤ h) (hBw : B ≤ w.heap.size) : Below B w0 w' :=
  ⟨H.os.trans hb.os, H.tape.trans hb.tape, H.output.trans hb.output, Nat.le_trans hb.size H.size, fun k hk => (H.block k (by omega) (by omega) (by omega)).trans (hb.block k hk)⟩
theorem Oth2.blk {b h g : Nat} {w w' : World} {e : TypeId} {xs : List Value} (H : Oth2 b h w w') (hg : Blk w g e xs) (hne : g ≠ b) (hne2 : g ≠ h) : Blk w' g e xs := by
  unfold Blk
  rw [H.block g hg.lt hne hne2]
  exact hg
theorem idx_ib_all : ∀ n, n < 256 → IntKind.u8.wrap (max (Lib.indexByte lettersL (UInt8.ofNat n)) 0) = idxL (UInt8.ofNat n) := by decide +kernel
theorem idx_ib (x : UInt8) : IntKind.u8.wrap (max (Lib.indexByte lettersL x) 0) = idxL x := by
  have h := idx_ib_all x.toNat x.toNat_lt
  rwa [UInt8.ofNat_toNat] at h
/-- The state: the reader's rest, the delivery, the rest of memory. -/
structure WSt (b h : Nat) (w wr : World) (l : List UInt8) (d : Del) : Prop where
  rd : RdB wr b l
  dl : Blk wr h 36 (delE d)
  ot : Oth2 b h w wr
theorem WSt.read {b h : Nat} {w wr w1 : World} {l l' : List UInt8} {d : Del} (H : WSt b h w wr l d) (hne : h ≠ b) (hr : RdB w1 b l') (ho : Oth b wr w1) : WSt b h w w1 l' d := ⟨hr, ho.blk H.dl hne, H.ot.one ho⟩
theorem WSt.set {b h : Nat} {w wr : World} {l : List UInt8} {d d' : Del} (H : WSt b h w wr l d) (hne : h ≠ b) (j : Nat) (u : Value) (hd : (delE d).set j u = delE d') : WSt b h w (wr.setCell ⟨h, j, none⟩ u) l d' :=
  ⟨(Oth.set h wr j u).blk H.rd (fun e => hne e.symm), by rw [← hd]; exact H.dl.set j u, H.ot.two (Oth.set h wr j u)⟩
theorem WSt.setR {b h : Nat} {w wr : World} {l : List UInt8} {d : Del} (H : WSt b h w wr l d) (hne : h ≠ b) (l' : List UInt8) : WSt b h w (wr.setCell ⟨b, 0, none⟩ (.string (sA l'))) l' d :=
  H.read hne (H.rd.set l') (Oth.set b wr 0 _)
theorem rwicket_p (b h : Nat) (hne : h ≠ b) (l : List UInt8) (ty s1 runs short bd : Int) (cr : Bool) (sec : Int) (w : World) (hw : WSt b h w w l ⟨ty, s1, runs, short, bd, cr, 0, 0, 0, 0, false, sec⟩) :
    Calls Tryz.prog 134 #[.pointer (some ⟨b, 0, none⟩), .pointer (some ⟨h, 0, none⟩)] w fun e w' => e = .returned (.tuple #[]) ∧ WSt b h w w' (p7 l).2 ⟨ty, s1, runs, short, bd, cr, (p7 l).1.how, (p7 l).1.vic, (p7 l).1.fd, (p7 l).1.sd, (p7 l).1.sub, sec⟩ := by
  have HW := Lib.hid hw
  clear hw
  obtain ⟨R, hR⟩ : ∃ R, p7 l = R := ⟨_, rfl⟩
  rw [hR]
  unfold p7 at hR
  obtain ⟨v1, hv1⟩ : ∃ v, hasC l 47 = v := ⟨_, rfl⟩
  rw [hv1] at hR
  have HR := Lib.hid hR
  have HV1 := Lib.hid hv1
  clear hv1 hR
  have c0 := HW.out.rd.cell
  have f0 := HW.out.rd.frozen 0
  have hlb := HW.out.rd.lt
  have hlh := HW.out.dl.lt
  cases v1
  case false =>
    go_enter Tryz.func134, Tryz.ntmps134
    go_wp2_with fail
    refine (take_p b l 47 w HW.out.rd).mono ?_
    rintro e w1 ⟨rfl, hr1, ho1⟩
    rw [HV1.out]
    rw [takeC, HV1.out] at hr1
    have H1 := Lib.hid (HW.out.read hne hr1 ho1)
    clear hr1 ho1
    go_wp2_with fail
    (try simp only [Exit.inBlock, Exit.then])
    refine bodyPost_ret (results_none rfl _ _ _) rfl ?_
    have : R = (⟨0, 0, 0, 0, false⟩, l) := by rw [← HR.out]; rfl
    rw [this]
    exact ⟨rfl, H1.out⟩
  obtain ⟨l1, hl1⟩ : ∃ x, l.tail = x := ⟨_, rfl⟩
  have HL1 := Lib.hid hl1
  clear hl1
  go_enter Tryz.func134, Tryz.ntmps134
  go_wp2_with fail
  refine (take_p b l 47 w HW.out.rd).mono ?_
  rintro e w1 ⟨rfl, hr1, ho1⟩
  rw [HV1.out]
  rw [takeC, HV1.out, if_pos rfl, HL1.out] at hr1
  have H1 := Lib.hid (HW.out.read hne hr1 ho1)
  clear hr1 ho1 c0 f0 hlb hlh
  have c0 := H1.out.rd.cell
  have f0 := H1.out.rd.frozen 0
  have hlb := H1.out.rd.lt
  have hlh := H1.out.dl.lt
  cases l1 with
  | nil =>
    have e1 := sA_emp0
    go_wp2_with fail
    (try simp only [Exit.inBlock, Exit.then])
    refine bodyPost_ret (results_none rfl _ _ _) rfl ?_
    have : R = (⟨0, 0, 0, 0, false⟩, []) := by rw [← HR.out, HL1.out]; rfl
    rw [this]
    exact ⟨rfl, H1.out⟩
  | cons x r =>
    have HRR := Lib.hid (show R = (if hasC (rdD r).2 40 then (⟨idxL x, (rdD r).1, (inner (rdD r).2.tail).1.1, (inner (rdD r).2.tail).1.2.1, (inner (rdD r).2.tail).1.2.2⟩, (inner (rdD r).2.tail).2) else (⟨idxL x, (rdD r).1, 0, 0, false⟩, (rdD r).2)) by rw [← HR.out, HL1.out]; rfl)
    clear HR
    obtain ⟨s, hs⟩ : ∃ s, sA (x :: r) = s := ⟨_, rfl⟩
    have e1 : s.toList.isEmpty = false := by rw [← hs]; exact sA_emp1 x r
    have hz : 0 < s.size := by rw [← hs]; exact sA_pos x r
    have hs0 : s[0]'hz = x := by subst hs; exact sA_zero x r
    have ht : s.extract 1 s.size = sA r := by rw [← hs]; exact sA_tail x r
    have h1s : (1 : Int) ≤ s.size := by omega
    rw [hs] at c0
    have HS := Lib.hid hs
    clear hs
    go_wp2_with fail
    obtain ⟨k, hk⟩ : ∃ k, Lib.indexByte (⟨#[78, 66, 67, 76, 83, 72, 82, 84, 79, 77, 81]⟩ : ByteArray).data.toList (x.toNat : Int).toNat.toUInt8 = k := ⟨_, rfl⟩
    have HK := Lib.hid hk
    have hk2 : IntKind.u8.wrap (max k 0) = idxL x := by rw [← hk, ← idx_ib x]; congr 3; simp
    clear hk
    have d6 := H1.out.dl.cell 6
    simp only [delE, List.getElem?_cons_succ, List.getElem?_cons_zero] at d6
    have z6 := H1.out.dl.frozen 6
    obtain ⟨w2, hw2⟩ : ∃ y, w1.setCell ⟨h, 6, none⟩ (.int .u8 (idxL x)) = y := ⟨_, rfl⟩
    have H2 : Hid (WSt b h w w2 (x :: r) ⟨ty, s1, runs, short, bd, cr, idxL x, 0, 0, 0, false, sec⟩) := Lib.hid (by rw [← hw2]; exact H1.out.set hne 6 _ rfl)
    have Sw2 := Lib.hid hw2
    clear hw2
    have c0b := H2.out.rd.cell
    rw [HS.out] at c0b
    have f0b := H2.out.rd.frozen 0
    obtain ⟨w3, hw3⟩ : ∃ y, w2.setCell ⟨b, 0, none⟩ (.string (sA r)) = y := ⟨_, rfl⟩
    have H3 := Lib.hid (show WSt b h w w3 r ⟨ty, s1, runs, short, bd, cr, idxL x, 0, 0, 0, false, sec⟩ by rw [← hw3]; exact H2.out.setR hne r)
    have Sw3 := Lib.hid hw3
    clear hw3
    refine (Tryz.ib_p _ _ _).mono ?_
    rintro e w1b ⟨rfl, rfl⟩
    rw [HK.out]
    go_wp2_with (first | rw [Sw2.out] | rw [Sw3.out])
    clear c0 c0b f0 f0b d6 z6 hs0 ht hk2 HK Sw2 Sw3 H1 H2
    obtain ⟨v, hv⟩ : ∃ y, (rdD r).1 = y := ⟨_, rfl⟩
    have Nv := Lib.hid hv
    clear hv
    obtain ⟨l4, hl4⟩ : ∃ y, (rdD r).2 = y := ⟨_, rfl⟩
    have Nl4 := Lib.hid hl4
    clear hl4
    refine (rdig_p b r w3 H3.out.rd).mono ?_
    rintro e w4 ⟨rfl, hr1, ho1⟩
    rw [Nv.out]
    rw [Nl4.out] at hr1
    have H4 := Lib.hid (H3.out.read hne hr1 ho1)
    clear hr1 ho1
    have d7 := H4.out.dl.cell 7
    simp only [delE, List.getElem?_cons_succ, List.getElem?_cons_zero] at d7
    have z7 := H4.out.dl.frozen 7
    obtain ⟨w5, hw5⟩ : ∃ y, w4.setCell ⟨h, 7, none⟩ (.int .i64 v) = y := ⟨_, rfl⟩
    have H5 : Hid (WSt b h w w5 l4 ⟨ty, s1, runs, short, bd, cr, idxL x, v, 0, 0, false, sec⟩) := Lib.hid (by rw [← hw5]; exact H4.out.set hne 7 _ rfl)
    have Sw5 := Lib.hid hw5
    clear hw5
    go_wp2_with (rw [Sw5.out])
    clear d7 z7
    obtain ⟨v40, hv40⟩ : ∃ y, hasC l4 40 = y := ⟨_, rfl⟩
    have Nv40 := Lib.hid hv40
    clear hv40
    cases v40
    · refine (take_p b l4 40 w5 H5.out.rd).mono ?_
      rintro e w6 ⟨rfl, hr1, ho1⟩
      rw [Nv40.out]
      rw [takeC, Nv40.out] at hr1
      have H6 := Lib.hid (H5.out.read hne hr1 ho1)
      clear hr1 ho1
      go_wp2_with fail
      (try simp only [Exit.inBlock, Exit.then])
      refine bodyPost_ret (results_none rfl _ _ _) rfl ?_
      have hfin : R = (⟨idxL x, v, 0, 0, false⟩, l4) := by
        rw [HRR.out, Nl4.out, Nv40.out, Nv.out]; rfl
      rw [hfin]
      exact ⟨rfl, H6.out⟩
    · obtain ⟨l6, hl6⟩ : ∃ y, l4.tail = y := ⟨_, rfl⟩
      have Nl6 := Lib.hid hl6
      clear hl6
      refine (take_p b l4 40 w5 H5.out.rd).mono ?_
      rintro e w6 ⟨rfl, hr1, ho1⟩
      rw [Nv40.out]
      rw [takeC, Nv40.out, if_pos rfl, Nl6.out] at hr1
      have H6 := Lib.hid (H5.out.read hne hr1 ho1)
      clear hr1 ho1
      go_wp2_with fail
      obtain ⟨n1, hn1⟩ : ∃ y, (rdN l6).1 = y := ⟨_, rfl⟩
      have Nn1 := Lib.hid hn1
      clear hn1
      obtain ⟨l7, hl7⟩ : ∃ y, (rdN l6).2 = y := ⟨_, rfl⟩
      have Nl7 := Lib.hid hl7
      clear hl7
      refine (rnum_p b l6 w6 H6.out.rd).mono ?_
      rintro e w7 ⟨rfl, hr1, ho1⟩
      rw [Nn1.out]
      rw [Nl7.out] at hr1
      have H7 := Lib.hid (H6.out.read hne hr1 ho1)
      clear hr1 ho1
      have d8 := H7.out.dl.cell 8
      simp only [delE, List.getElem?_cons_succ, List.getElem?_cons_zero] at d8
      have z8 := H7.out.dl.frozen 8
      obtain ⟨w8, hw8⟩ : ∃ y, w7.setCell ⟨h, 8, none⟩ (.int .i64 n1) = y := ⟨_, rfl⟩
      have H8 : Hid (WSt b h w w8 l7 ⟨ty, s1, runs, short, bd, cr, idxL x, v, n1, 0, false, sec⟩) := Lib.hid (by rw [← hw8]; exact H7.out.set hne 8 _ rfl)
      have Sw8 := Lib.hid hw8
      clear hw8
      go_wp2_with (rw [Sw8.out])
      clear d8 z8
      obtain ⟨v44, hv44⟩ : ∃ y, hasC l7 44 = y := ⟨_, rfl⟩
      have Nv44 := Lib.hid hv44
      clear hv44
      have HRS := Lib.hid (show R = (⟨idxL x, v, (inner l6).1.1, (inner l6).1.2.1, (inner l6).1.2.2⟩, (inner l6).2) by rw [HRR.out, Nl4.out, Nv40.out, Nv.out, Nl6.out]; rfl)
      clear HRR
      cases v44
      · refine (take_p b l7 44 w8 H8.out.rd).mono ?_
        rintro e w9 ⟨rfl, hr1, ho1⟩
        rw [Nv44.out]
        rw [takeC, Nv44.out] at hr1
        have H9 := Lib.hid (H8.out.read hne hr1 ho1)
        clear hr1 ho1
        go_wp2_with fail
        obtain ⟨v115, hv115⟩ : ∃ y, hasC l7 115 = y := ⟨_, rfl⟩
        have Nv115 := Lib.hid hv115
        clear hv115
        obtain ⟨lc, hlc⟩ : ∃ y, takeC l7 115 = y := ⟨_, rfl⟩
        have Nlc := Lib.hid hlc
        clear hlc
        refine (take_p b l7 115 w9 H9.out.rd).mono ?_
        rintro e wa ⟨rfl, hr1, ho1⟩
        rw [Nv115.out]
        rw [Nlc.out] at hr1
        have Ha := Lib.hid (H9.out.read hne hr1 ho1)
        clear hr1 ho1
        have d10 := Ha.out.dl.cell 10
        simp only [delE, List.getElem?_cons_succ, List.getElem?_cons_zero] at d10
        have z10 := Ha.out.dl.frozen 10
        obtain ⟨wb, hwb⟩ : ∃ y, wa.setCell ⟨h, 10, none⟩ (.bool v115) = y := ⟨_, rfl⟩
        have Hb : Hid (WSt b h w wb lc ⟨ty, s1, runs, short, bd, cr, idxL x, v, n1, 0, v115, sec⟩) := Lib.hid (by rw [← hwb]; exact Ha.out.set hne 10 _ rfl)
        have Swb := Lib.hid hwb
        clear hwb
        go_wp2_with (rw [Swb.out])
        clear d10 z10
        refine (take_p b lc 41 wb Hb.out.rd).mono ?_
        rintro e wc ⟨rfl, hr1, ho1⟩
        have Hc := Lib.hid (Hb.out.read hne hr1 ho1)
        clear hr1 ho1
        go_wp2_with fail
        go_end0
        have hfin : R = (⟨idxL x, v, n1, 0, v115⟩, takeC lc 41) := by
          rw [HRS.out]; unfold inner; dsimp only; rw [Nl7.out, Nv44.out, Nn1.out]; simp only [Bool.false_eq_true, if_false]; rw [Nv115.out, Nlc.out]
        rw [hfin]
        exact ⟨rfl, Hc.out⟩
      · obtain ⟨l9, hl9⟩ : ∃ y, l7.tail = y := ⟨_, rfl⟩
        have Nl9 := Lib.hid hl9
        clear hl9
        refine (take_p b l7 44 w8 H8.out.rd).mono ?_
        rintro e w9 ⟨rfl, hr1, ho1⟩
        rw [Nv44.out]
        rw [takeC, Nv44.out, if_pos rfl, Nl9.out] at hr1
        have H9 := Lib.hid (H8.out.read hne hr1 ho1)
        clear hr1 ho1
        go_wp2_with fail
        obtain ⟨n2, hn2⟩ : ∃ y, (rdN l9).1 = y := ⟨_, rfl⟩
        have Nn2 := Lib.hid hn2
        clear hn2
        obtain ⟨l10, hl10⟩ : ∃ y, (rdN l9).2 = y := ⟨_, rfl⟩
        have Nl10 := Lib.hid hl10
        clear hl10
        refine (rnum_p b l9 w9 H9.out.rd).mono ?_
        rintro e w10 ⟨rfl, hr1, ho1⟩
        rw [Nn2.out]
        rw [Nl10.out] at hr1
        have H10 := Lib.hid (H9.out.read hne hr1 ho1)
        clear hr1 ho1
        have d9 := H10.out.dl.cell 9
        simp only [delE, List.getElem?_cons_succ, List.getElem?_cons_zero] at d9
        have z9 := H10.out.dl.frozen 9
        obtain ⟨w11, hw11⟩ : ∃ y, w10.setCell ⟨h, 9, none⟩ (.int .i64 n2) = y := ⟨_, rfl⟩
        have H11 : Hid (WSt b h w w11 l10 ⟨ty, s1, runs, short, bd, cr, idxL x, v, n1, n2, false, sec⟩) := Lib.hid (by rw [← hw11]; exact H10.out.set hne 9 _ rfl)
        have Sw11 := Lib.hid hw11
        clear hw11
        go_wp2_with (rw [Sw11.out])
        clear d9 z9
        obtain ⟨v115, hv115⟩ : ∃ y, hasC l10 115 = y := ⟨_, rfl⟩
        have Nv115 := Lib.hid hv115
        clear hv115
        obtain ⟨lc, hlc⟩ : ∃ y, takeC l10 115 = y := ⟨_, rfl⟩
        have Nlc := Lib.hid hlc
        clear hlc
        refine (take_p b l10 115 w11 H11.out.rd).mono ?_
        rintro e wa ⟨rfl, hr1, ho1⟩
        rw [Nv115.out]
        rw [Nlc.out] at hr1
        have Ha := Lib.hid (H11.out.read hne hr1 ho1)
        clear hr1 ho1
        have d10 := Ha.out.dl.cell 10
        simp only [delE, List.getElem?_cons_succ, List.getElem?_cons_zero] at d10
        have z10 := Ha.out.dl.frozen 10
        obtain ⟨wb, hwb⟩ : ∃ y, wa.setCell ⟨h, 10, none⟩ (.bool v115) = y := ⟨_, rfl⟩
        have Hb : Hid (WSt b h w wb lc ⟨ty, s1, runs, short, bd, cr, idxL x, v, n1, n2, v115, sec⟩) := Lib.hid (by rw [← hwb]; exact Ha.out.set hne 10 _ rfl)
        have Swb := Lib.hid hwb
        clear hwb
        go_wp2_with (rw [Swb.out])
        clear d10 z10
        refine (take_p b lc 41 wb Hb.out.rd).mono ?_
        rintro e wc ⟨rfl, hr1, ho1⟩
        have Hc := Lib.hid (Hb.out.read hne hr1 ho1)
        clear hr1 ho1
        go_wp2_with fail
        go_end0
        have hfin : R = (⟨idxL x, v, n1, n2, v115⟩, takeC lc 41) := by
          rw [HRS.out]; unfold inner; dsimp only; rw [Nl7.out, Nv44.out, Nn1.out]; simp only [if_true]; rw [Nl9.out, Nl10.out, Nn2.out, Nv115.out, Nlc.out]
        rw [hfin]
        exact ⟨rfl, Hc.out⟩
end Go.Proofs.YtdbiihfoafoljaaGreatDoor
