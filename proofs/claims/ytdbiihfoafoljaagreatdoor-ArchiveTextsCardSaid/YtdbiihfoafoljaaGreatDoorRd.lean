/-
  Chapter 7: the reader of symbols: one byte, a digit, a number.
-/
import Derived.Test.YtdbiihfoafoljaaGreatDoorNotPr
set_option linter.unusedSimpArgs false
set_option linter.unusedVariables false
namespace Go.Proofs.YtdbiihfoafoljaaGreatDoor
open Go.RowKit
set_option maxRecDepth 100000
set_option maxHeartbeats 2000000
/-- All blocks but b stand. -/
structure Oth (b : Nat) (w w' : World) : Prop where
  os : w'.os = w.os
  tape : w'.tape = w.tape
  output : w'.output = w.output
  size : w.heap.size ≤ w'.heap.size
  block : ∀ k, k < w.heap.size → k ≠ b → w'.heap[k]? = w.heap[k]?
theorem Oth.refl (b : Nat) (w : World) : Oth b w w := ⟨rfl, rfl, rfl, Nat.le_refl _, fun _ _ _ => rfl⟩
theorem Oth.trans {b : Nat} {w w1 w2 : World} (h : Oth b w w1) (h2 : Oth b w1 w2) : Oth b w w2 :=
  ⟨h2.os.trans h.os, h2.tape.trans h.tape, h2.output.trans h.output, Nat.le_trans h.size h2.size, fun k hk hne => (h2.block k (Nat.lt_of_lt_of_le hk h.size) hne).trans (h.block k hk hne)⟩
theorem Oth.below {b B : Nat} {w0 w w' : World} (h : Oth b w w') (hb : Below B w0 w) (hB : B ≤ b) (hBw : B ≤ w.heap.size) : Below B w0 w' :=
  ⟨h.os.trans hb.os, h.tape.trans hb.tape, h.output.trans hb.output, Nat.le_trans hb.size h.size, fun k hk => (h.block k (by omega) (by omega)).trans (hb.block k hk)⟩
theorem Oth.blk {b g : Nat} {w w' : World} {e : TypeId} {xs : List Value} (h : Oth b w w') (hg : Blk w g e xs) (hne : g ≠ b) : Blk w' g e xs := by
  unfold Blk
  rw [h.block g hg.lt hne]
  exact hg
theorem Oth.set (b : Nat) (w : World) (j : Nat) (u : Value) : Oth b w (w.setCell ⟨b, j, none⟩ u) := by
  have hb := (Below.refl 0 w).setCell (p := ⟨b, j, none⟩) (Nat.zero_le _) u
  exact ⟨hb.os, hb.tape, hb.output, hb.size, fun k hk hne => heap_setCell_other w ⟨b, j, none⟩ k u hne⟩
def RdB (w : World) (b : Nat) (l : List UInt8) : Prop := Blk w b 165 [.string (sA l)]
theorem RdB.cell {w : World} {b : Nat} {l : List UInt8} (h : RdB w b l) : w.cell? ⟨b, 0, none⟩ = some (.string (sA l)) := Blk.cell h 0
theorem RdB.set {w : World} {b : Nat} {l : List UInt8} (h : RdB w b l) (l' : List UInt8) : RdB (w.setCell ⟨b, 0, none⟩ (.string (sA l'))) b l' := Blk.set h 0 _
theorem sA_emp0 : (sA []).toList.isEmpty = true := by rw [emp_size]; rfl
theorem sA_emp1 (x : UInt8) (r : List UInt8) : (sA (x :: r)).toList.isEmpty = false := by rw [emp_size, sA_size]; simp
theorem sA_pos (x : UInt8) (r : List UInt8) : 0 < (sA (x :: r)).size := by rw [sA_size]; simp
theorem sA_zero (x : UInt8) (r : List UInt8) : (sA (x :: r))[0]'(sA_pos x r) = x := rfl
theorem sA_tail (x : UInt8) (r : List UInt8) : (sA (x :: r)).extract 1 (sA (x :: r)).size = sA r := by
  apply ByteArray.ext
  rw [ByteArray.data_extract]
  apply Array.ext'
  rw [Array.toList_extract]
  simp [sA, ByteArray.size, List.extract]
theorem take_p (b : Nat) (l : List UInt8) (c : UInt8) (w : World) (h : RdB w b l) : Calls Tryz.prog 131 #[.pointer (some ⟨b, 0, none⟩), .int .u8 c.toNat] w fun e w' => e = .returned (.bool (hasC l c)) ∧ RdB w' b (takeC l c) ∧ Oth b w w' := by
  have c0 := h.cell
  have f0 := h.frozen 0
  have hlt := h.lt
  have H := Lib.hid h
  clear h
  cases l with
  | nil =>
    have e1 := sA_emp0
    go_enter Tryz.func131, Tryz.ntmps131
    go_wp2_with fail
    go_ret
    exact ⟨rfl, H.out, Oth.refl b w⟩
  | cons x r =>
    obtain ⟨s, hs⟩ : ∃ s, sA (x :: r) = s := ⟨_, rfl⟩
    have e1 : s.toList.isEmpty = false := by rw [← hs]; exact sA_emp1 x r
    have hz : 0 < s.size := by rw [← hs]; exact sA_pos x r
    have hs0 : s[0]'hz = x := by subst hs; exact sA_zero x r
    have ht : s.extract 1 s.size = sA r := by rw [← hs]; exact sA_tail x r
    have h1s : (1 : Int) ≤ s.size := by omega
    rw [hs] at c0
    have HS := Lib.hid hs
    clear hs
    by_cases hx : x = c
    · have g1 : ((x.toNat : Int) != c.toNat) = false := by rw [hx]; simp
      have HX := Lib.hid hx
      clear hx
      go_enter Tryz.func131, Tryz.ntmps131
      go_wp2_with fail
      go_ret
      refine ⟨?_, ?_, Oth.set b w 0 _⟩
      · rw [HX.out, hasC_cons]; rfl
      · rw [HX.out, takeC, hasC_cons, if_pos rfl]
        exact H.out.set r
    · have g1 : ((x.toNat : Int) != c.toNat) = true := by
        simp only [bne_iff_ne, ne_eq]
        intro h
        exact hx (UInt8.toNat.inj (by omega))
      have HX := Lib.hid hx
      clear hx
      go_enter Tryz.func131, Tryz.ntmps131
      go_wp2_with fail
      go_ret
      refine ⟨?_, ?_, Oth.refl b w⟩
      · rw [hasC_ne r HX.out]; rfl
      · rw [takeC, hasC_ne r HX.out]
        exact H.out
theorem digit_wrap {x : UInt8} (h : 48 ≤ x.toNat) : IntKind.u8.wrap ((x.toNat : Int) - 48) = (x.toNat : Int) - 48 := by
  have := x.toNat_lt
  show (((x.toNat : Int) - 48) % 256) = _
  omega
theorem rdD_rng (l : List UInt8) : 0 ≤ (rdD l).1 ∧ (rdD l).1 ≤ 9 := by
  cases l with
  | nil => exact ⟨by decide, by decide⟩
  | cons x r =>
    rw [rdD]
    by_cases h : digC x = true
    · rw [if_pos h]
      unfold digC at h
      simp at h
      dsimp only
      omega
    · rw [if_neg h]
      exact ⟨Int.le_refl 0, show (0 : Int) ≤ 9 by decide⟩
theorem rdig_p (b : Nat) (l : List UInt8) (w : World) (h : RdB w b l) : Calls Tryz.prog 133 #[.pointer (some ⟨b, 0, none⟩)] w fun e w' => e = .returned (.int .i64 (rdD l).1) ∧ RdB w' b (rdD l).2 ∧ Oth b w w' := by
  have c0 := h.cell
  have f0 := h.frozen 0
  have hlt := h.lt
  have H := Lib.hid h
  clear h
  cases l with
  | nil =>
    have e1 := sA_emp0
    go_enter Tryz.func133, Tryz.ntmps133
    go_wp2_with fail
    go_ret
    exact ⟨rfl, H.out, Oth.refl b w⟩
  | cons x r =>
    obtain ⟨s, hs⟩ : ∃ s, sA (x :: r) = s := ⟨_, rfl⟩
    have e1 : s.toList.isEmpty = false := by rw [← hs]; exact sA_emp1 x r
    have hz : 0 < s.size := by rw [← hs]; exact sA_pos x r
    have hs0 : s[0]'hz = x := by subst hs; exact sA_zero x r
    have ht : s.extract 1 s.size = sA r := by rw [← hs]; exact sA_tail x r
    have h1s : (1 : Int) ≤ s.size := by omega
    rw [hs] at c0
    have HS := Lib.hid hs
    clear hs
    have hx256 : x.toNat < 256 := x.toNat_lt
    by_cases h1 : x.toNat < 48
    · have g1 : decide ((x.toNat : Int) < 48) = true := by simp; omega
      have HX := Lib.hid (show digC x = false by unfold digC; simp; omega)
      clear h1
      go_enter Tryz.func133, Tryz.ntmps133
      go_wp2_with fail
      go_ret
      refine ⟨?_, ?_, Oth.refl b w⟩
      · rw [rdD, HX.out]; rfl
      · rw [rdD, HX.out]
        exact H.out
    by_cases h2 : 57 < x.toNat
    · have g1 : decide ((x.toNat : Int) < 48) = false := by simp; omega
      have g2 : decide (57 < (x.toNat : Int)) = true := by simp; omega
      have HX := Lib.hid (show digC x = false by unfold digC; simp; omega)
      clear h1 h2
      go_enter Tryz.func133, Tryz.ntmps133
      go_wp2_with fail
      go_ret
      refine ⟨?_, ?_, Oth.refl b w⟩
      · rw [rdD, HX.out]; rfl
      · rw [rdD, HX.out]
        exact H.out
    · have g1 : decide ((x.toNat : Int) < 48) = false := by simp; omega
      have g2 : decide (57 < (x.toNat : Int)) = false := by simp; omega
      have g3 := digit_wrap (x := x) (by omega)
      have HX := Lib.hid (show digC x = true by unfold digC; simp; omega)
      have b1 : 48 ≤ x.toNat := by omega
      have b2 : x.toNat ≤ 57 := by omega
      clear h1 h2
      go_enter Tryz.func133, Tryz.ntmps133
      go_wp2_with fail
      go_ret
      refine ⟨?_, ?_, Oth.set b w 0 _⟩
      · rw [rdD, HX.out]; rfl
      · rw [rdD, HX.out]
        exact H.out.set r
theorem rnum_p (b : Nat) (l : List UInt8) (w : World) (h : RdB w b l) : Calls Tryz.prog 160 #[.pointer (some ⟨b, 0, none⟩)] w fun e w' => e = .returned (.int .i64 (rdN l).1) ∧ RdB w' b (rdN l).2 ∧ Oth b w w' := by
  have hd0 := rdD_rng l
  obtain ⟨m, hm⟩ : ∃ m, (rdD l).1 = m := ⟨_, rfl⟩
  obtain ⟨l1, hl1⟩ : ∃ m, (rdD l).2 = m := ⟨_, rfl⟩
  have hN : rdN l = if hasD l1 then (10 * m + (rdD l1).1, (rdD l1).2) else rdD l := by unfold rdN; rw [hm, hl1]
  rw [hm] at hd0
  obtain ⟨d0, d9⟩ := hd0
  have hlt := h.lt
  have H := Lib.hid h
  have HM := Lib.hid hm
  have HL1 := Lib.hid hl1
  have HN := Lib.hid hN
  clear h hm hl1 hN
  go_enter Tryz.func160, Tryz.ntmps160
  go_wp2_with fail
  refine (rdig_p b l w H.out).mono ?_
  rintro e w1 ⟨rfl, hr1, ho1⟩
  rw [HM.out]
  rw [HL1.out] at hr1
  have c0 := hr1.cell
  have f0 := hr1.frozen 0
  have hlt1 := hr1.lt
  have H1 := Lib.hid hr1
  have HO1 := Lib.hid ho1
  clear hr1 ho1
  cases l1 with
  | nil =>
    have e1 := sA_emp0
    go_wp2_with fail
    go_ret
    refine ⟨?_, ?_, HO1.out⟩
    · rw [HN.out]; show Ending.returned _ = Ending.returned (.int .i64 (rdD l).1); rw [HM.out]; rfl
    · rw [HN.out]; show RdB _ _ (rdD l).2; rw [HL1.out]; exact H1.out
  | cons x r =>
    obtain ⟨s, hs⟩ : ∃ s, sA (x :: r) = s := ⟨_, rfl⟩
    have e1 : s.toList.isEmpty = false := by rw [← hs]; exact sA_emp1 x r
    have hz : 0 < s.size := by rw [← hs]; exact sA_pos x r
    have hs0 : s[0]'hz = x := by subst hs; exact sA_zero x r
    have ht : s.extract 1 s.size = sA r := by rw [← hs]; exact sA_tail x r
    have h1s : (1 : Int) ≤ s.size := by omega
    rw [hs] at c0
    have HS := Lib.hid hs
    clear hs
    have hx256 : x.toNat < 256 := x.toNat_lt
    have hno : digC x = false → rdN l = (m, x :: r) := fun h => by rw [HN.out, if_neg (by simp [hasD, h]), ← HM.out, ← HL1.out]
    have hyes : digC x = true → rdN l = (10 * m + (rdD (x :: r)).1, (rdD (x :: r)).2) := fun h => by rw [HN.out, if_pos (by simp [hasD, h])]
    have HNO := Lib.hid hno
    have HYES := Lib.hid hyes
    clear hno hyes
    by_cases h1 : x.toNat < 48
    · have g1 : decide (48 ≤ (x.toNat : Int)) = false := by simp; omega
      have HX := Lib.hid (HNO.out (by unfold digC; simp; omega))
      clear h1
      go_wp2_with fail
      go_ret
      refine ⟨?_, ?_, HO1.out⟩
      · rw [HX.out]; rfl
      · rw [HX.out]
        exact H1.out
    by_cases h2 : 57 < x.toNat
    · have g1 : decide (48 ≤ (x.toNat : Int)) = true := by simp; omega
      have g2 : decide ((x.toNat : Int) ≤ 57) = false := by simp; omega
      have HX := Lib.hid (HNO.out (by unfold digC; simp; omega))
      clear h1 h2
      go_wp2_with fail
      go_ret
      refine ⟨?_, ?_, HO1.out⟩
      · rw [HX.out]; rfl
      · rw [HX.out]
        exact H1.out
    · have g1 : decide (48 ≤ (x.toNat : Int)) = true := by simp; omega
      have g2 : decide ((x.toNat : Int) ≤ 57) = true := by simp; omega
      have HX := Lib.hid (HYES.out (by unfold digC; simp; omega))
      have hd1 := rdD_rng (x :: r)
      obtain ⟨m2, hm2⟩ : ∃ m, (rdD (x :: r)).1 = m := ⟨_, rfl⟩
      rw [hm2] at hd1
      obtain ⟨d20, d29⟩ := hd1
      have HM2 := Lib.hid hm2
      clear h1 h2 hm2
      go_wp2_with fail
      refine (rdig_p b (x :: r) _ H1.out).mono ?_
      rintro e w2 ⟨rfl, hr2, ho2⟩
      rw [HM2.out]
      have H2 := Lib.hid hr2
      have HO2 := Lib.hid (HO1.out.trans ho2)
      clear hr2 ho2
      go_wp2_with fail
      go_ret
      refine ⟨?_, ?_, HO2.out⟩
      · rw [HX.out, HM2.out]; rfl
      · rw [HX.out]
        exact H2.out
theorem rsrc_p (b : Nat) (t : Int) (l : List UInt8) (w : World) (h : RdB w b l) : Calls Tryz.prog 132 #[.pointer (some ⟨b, 0, none⟩), .int .u8 t] w fun e w' => e = .returned (.int .u8 (p2 t l).1) ∧ RdB w' b (p2 t l).2 ∧ Oth b w w' := by
  have H := Lib.hid h
  clear h
  obtain ⟨R, hR⟩ : ∃ R, p2 t l = R := ⟨_, rfl⟩
  rw [hR]
  unfold p2 at hR
  obtain ⟨v1, hv1⟩ : ∃ v, hasC l 98 = v := ⟨_, rfl⟩
  obtain ⟨v2, hv2⟩ : ∃ v, hasC l 108 = v := ⟨_, rfl⟩
  obtain ⟨v3, hv3⟩ : ∃ v, hasC l 111 = v := ⟨_, rfl⟩
  obtain ⟨v4, hv4⟩ : ∃ v, hasC l 46 = v := ⟨_, rfl⟩
  rw [hv1, hv2, hv3, hv4] at hR
  have HR := Lib.hid hR
  have HV1 := Lib.hid hv1
  have HV2 := Lib.hid hv2
  have HV3 := Lib.hid hv3
  have HV4 := Lib.hid hv4
  clear hv1 hv2 hv3 hv4 hR
  cases v1
  case true =>
    have HRV := Lib.hid (show R = (2, l.tail) by rw [← HR.out]; rfl)
    go_enter Tryz.func132, Tryz.ntmps132
    go_wp2_with fail
    refine (take_p b l 98 w H.out).mono ?_
    rintro e w1 ⟨rfl, hr1, ho1⟩
    rw [HV1.out]
    rw [takeC, HV1.out] at hr1
    have H1 := Lib.hid hr1
    have HO1 := Lib.hid ho1
    clear hr1 ho1
    go_wp2_with fail
    go_ret
    refine ⟨?_, ?_, HO1.out⟩
    · rw [HRV.out]; rfl
    · rw [HRV.out]; exact H1.out
  have HST1 := Lib.hid (show ∀ w' : World, RdB w' b (takeC l 98) → RdB w' b l from fun w' h => by rw [takeC, HV1.out] at h; exact h)
  cases v2
  case true =>
    have HRV := Lib.hid (show R = (3, l.tail) by rw [← HR.out]; rfl)
    go_enter Tryz.func132, Tryz.ntmps132
    go_wp2_with fail
    refine (take_p b l 98 w H.out).mono ?_
    rintro e w1 ⟨rfl, hr1, ho1⟩
    rw [HV1.out]
    have H1 := Lib.hid (HST1.out _ hr1)
    have HO1 := Lib.hid ho1
    clear hr1 ho1
    go_wp2_with fail
    refine (take_p b l 108 _ H1.out).mono ?_
    rintro e w2 ⟨rfl, hr1, ho1⟩
    rw [HV2.out]
    rw [takeC, HV2.out] at hr1
    have H2 := Lib.hid hr1
    have HO2 := Lib.hid (HO1.out.trans ho1)
    clear hr1 ho1
    go_wp2_with fail
    go_ret
    refine ⟨?_, ?_, HO2.out⟩
    · rw [HRV.out]; rfl
    · rw [HRV.out]; exact H2.out
  have HST2 := Lib.hid (show ∀ w' : World, RdB w' b (takeC l 108) → RdB w' b l from fun w' h => by rw [takeC, HV2.out] at h; exact h)
  by_cases ht : t = 2
  · have g1 : (t == 2) = true := by simpa using ht
    have HT := Lib.hid ht
    clear ht
    cases v3
    case true =>
      have HRV := Lib.hid (show R = (1, l.tail) by rw [← HR.out]; simp only [Bool.false_eq_true, if_false, if_true]; rw [if_pos HT.out])
      go_enter Tryz.func132, Tryz.ntmps132
      go_wp2_with fail
      refine (take_p b l 98 w H.out).mono ?_
      rintro e w1 ⟨rfl, hr1, ho1⟩
      rw [HV1.out]
      have H1 := Lib.hid (HST1.out _ hr1)
      have HO1 := Lib.hid ho1
      clear hr1 ho1
      go_wp2_with fail
      refine (take_p b l 108 _ H1.out).mono ?_
      rintro e w2 ⟨rfl, hr1, ho1⟩
      rw [HV2.out]
      have H2 := Lib.hid (HST2.out _ hr1)
      have HO2 := Lib.hid (HO1.out.trans ho1)
      clear hr1 ho1
      go_wp2_with fail
      refine (take_p b l 111 _ H2.out).mono ?_
      rintro e w3 ⟨rfl, hr1, ho1⟩
      rw [HV3.out]
      rw [takeC, HV3.out] at hr1
      have H3 := Lib.hid hr1
      have HO3 := Lib.hid (HO2.out.trans ho1)
      clear hr1 ho1
      go_wp2_with fail
      go_ret
      refine ⟨?_, ?_, HO3.out⟩
      · rw [HRV.out]; rfl
      · rw [HRV.out]; exact H3.out
    case false =>
      have HRV := Lib.hid (show R = (0, l) by rw [← HR.out]; simp only [Bool.false_eq_true, if_false, if_true]; rw [if_pos HT.out])
      go_enter Tryz.func132, Tryz.ntmps132
      go_wp2_with fail
      refine (take_p b l 98 w H.out).mono ?_
      rintro e w1 ⟨rfl, hr1, ho1⟩
      rw [HV1.out]
      have H1 := Lib.hid (HST1.out _ hr1)
      have HO1 := Lib.hid ho1
      clear hr1 ho1
      go_wp2_with fail
      refine (take_p b l 108 _ H1.out).mono ?_
      rintro e w2 ⟨rfl, hr1, ho1⟩
      rw [HV2.out]
      have H2 := Lib.hid (HST2.out _ hr1)
      have HO2 := Lib.hid (HO1.out.trans ho1)
      clear hr1 ho1
      go_wp2_with fail
      refine (take_p b l 111 _ H2.out).mono ?_
      rintro e w3 ⟨rfl, hr1, ho1⟩
      rw [HV3.out]
      rw [takeC, HV3.out] at hr1
      have H3 := Lib.hid hr1
      have HO3 := Lib.hid (HO2.out.trans ho1)
      clear hr1 ho1
      go_wp2_with fail
      go_ret
      refine ⟨?_, ?_, HO3.out⟩
      · rw [HRV.out]; rfl
      · rw [HRV.out]; exact H3.out
  · have g1 : (t == 2) = false := by simpa using ht
    have HT := Lib.hid ht
    clear ht
    cases v4
    case true =>
      have HRV := Lib.hid (show R = (0, l.tail) by rw [← HR.out]; simp only [Bool.false_eq_true, if_false, if_true]; rw [if_neg HT.out])
      go_enter Tryz.func132, Tryz.ntmps132
      go_wp2_with fail
      refine (take_p b l 98 w H.out).mono ?_
      rintro e w1 ⟨rfl, hr1, ho1⟩
      rw [HV1.out]
      have H1 := Lib.hid (HST1.out _ hr1)
      have HO1 := Lib.hid ho1
      clear hr1 ho1
      go_wp2_with fail
      refine (take_p b l 108 _ H1.out).mono ?_
      rintro e w2 ⟨rfl, hr1, ho1⟩
      rw [HV2.out]
      have H2 := Lib.hid (HST2.out _ hr1)
      have HO2 := Lib.hid (HO1.out.trans ho1)
      clear hr1 ho1
      go_wp2_with fail
      refine (take_p b l 46 _ H2.out).mono ?_
      rintro e w3 ⟨rfl, hr1, ho1⟩
      rw [HV4.out]
      rw [takeC, HV4.out] at hr1
      have H3 := Lib.hid hr1
      have HO3 := Lib.hid (HO2.out.trans ho1)
      clear hr1 ho1
      go_wp2_with fail
      go_ret
      refine ⟨?_, ?_, HO3.out⟩
      · rw [HRV.out]; rfl
      · rw [HRV.out]; exact H3.out
    case false =>
      have HRV := Lib.hid (show R = (1, l) by rw [← HR.out]; simp only [Bool.false_eq_true, if_false, if_true]; rw [if_neg HT.out])
      go_enter Tryz.func132, Tryz.ntmps132
      go_wp2_with fail
      refine (take_p b l 98 w H.out).mono ?_
      rintro e w1 ⟨rfl, hr1, ho1⟩
      rw [HV1.out]
      have H1 := Lib.hid (HST1.out _ hr1)
      have HO1 := Lib.hid ho1
      clear hr1 ho1
      go_wp2_with fail
      refine (take_p b l 108 _ H1.out).mono ?_
      rintro e w2 ⟨rfl, hr1, ho1⟩
      rw [HV2.out]
      have H2 := Lib.hid (HST2.out _ hr1)
      have HO2 := Lib.hid (HO1.out.trans ho1)
      clear hr1 ho1
      go_wp2_with fail
      refine (take_p b l 46 _ H2.out).mono ?_
      rintro e w3 ⟨rfl, hr1, ho1⟩
      rw [HV4.out]
      rw [takeC, HV4.out] at hr1
      have H3 := Lib.hid hr1
      have HO3 := Lib.hid (HO2.out.trans ho1)
      clear hr1 ho1
      go_wp2_with fail
      go_ret
      refine ⟨?_, ?_, HO3.out⟩
      · rw [HRV.out]; rfl
      · rw [HRV.out]; exact H3.out
end Go.Proofs.YtdbiihfoafoljaaGreatDoor
