/-
  Texts of one chapter, put together (a claim holds at most sixty files).
-/
import Derived.Test.YtgkjcapoddjkhaaGreatDoorNotPr
import Derived.Test.YtgkjcapoddjkhaaGreatDoorStr
set_option linter.unusedSimpArgs false
set_option linter.unusedVariables false
namespace Go.Proofs.YtgkjcapoddjkhaaGreatDoor
section
/-! Chapter 7: the reader of symbols: one byte, a digit, a number. -/
open Go.RowKit
set_option maxRecDepth 100000
set_option maxHeartbeats 2000000
/-- All blocks but b stand. -/
structure Oth (b : Nat) (w w' : World) : Prop where
  os : w'.os = w.os
  tape : w'.tape = w.tape
  output : w'.output = w.output
  size : w.heap.size ≤ w'.heap.size
  block : ∀ k, k < w.heap.size → k ≠ b → w'.heap[k]? = w.heap[k]?
theorem Oth.refl (b : Nat) (w : World) : Oth b w w := ⟨rfl, rfl, rfl, Nat.le_refl _, fun _ _ _ => rfl⟩
theorem Oth.trans {b : Nat} {w w1 w2 : World} (h : Oth b w w1) (h2 : Oth b w1 w2) : Oth b w w2 :=
  ⟨h2.os.trans h.os, h2.tape.trans h.tape, h2.output.trans h.output, Nat.le_trans h.size h2.size, fun k hk hne => (h2.block k (Nat.lt_of_lt_of_le hk h.size) hne).trans (h.block k hk hne)⟩
theorem Oth.below {b B : Nat} {w0 w w' : World} (h : Oth b w w') (hb : Below B w0 w) (hB : B ≤ b) (hBw : B ≤ w.heap.size) : Below B w0 w' :=
  ⟨h.os.trans hb.os, h.tape.trans hb.tape, h.output.trans hb.output, Nat.le_trans hb.size h.size, fun k hk => (h.block k (by omega) (by omega)).trans (hb.block k hk)⟩
theorem Oth.blk {b g : Nat} {w w' : World} {e : TypeId} {xs : List Value} (h : Oth b w w') (hg : Blk w g e xs) (hne : g ≠ b) : Blk w' g e xs := by
  unfold Blk
  rw [h.block g hg.lt hne]
  exact hg
theorem Oth.set (b : Nat) (w : World) (j : Nat) (u : Value) : Oth b w (w.setCell ⟨b, j, none⟩ u) := by
  have hb := (Below.refl 0 w).setCell (p := ⟨b, j, none⟩) (Nat.zero_le _) u
  exact ⟨hb.os, hb.tape, hb.output, hb.size, fun k hk hne => heap_setCell_other w ⟨b, j, none⟩ k u hne⟩
def RdB (w : World) (b : Nat) (l : List UInt8) : Prop := Blk w b 128 [.string (sA l)]
theorem RdB.cell {w : World} {b : Nat} {l : List UInt8} (h : RdB w b l) : w.cell? ⟨b, 0, none⟩ = some (.string (sA l)) := Blk.cell h 0
theorem RdB.set {w : World} {b : Nat} {l : List UInt8} (h : RdB w b l) (l' : List UInt8) : RdB (w.setCell ⟨b, 0, none⟩ (.string (sA l'))) b l' := Blk.set h 0 _
theorem sA_emp0 : (sA []).toList.isEmpty = true := by rw [emp_size]; rfl
theorem sA_emp1 (x : UInt8) (r : List UInt8) : (sA (x :: r)).toList.isEmpty = false := by rw [emp_size, sA_size]; simp
theorem sA_pos (x : UInt8) (r : List UInt8) : 0 < (sA (x :: r)).size := by rw [sA_size]; simp
theorem sA_zero (x : UInt8) (r : List UInt8) : (sA (x :: r))[0]'(sA_pos x r) = x := rfl
theorem sA_tail (x : UInt8) (r : List UInt8) : (sA (x :: r)).extract 1 (sA (x :: r)).size = sA r := by
  apply ByteArray.ext
  rw [ByteArray.data_extract]
  apply Array.ext'
  rw [Array.toList_extract]
  simp [sA, ByteArray.size, List.extract]
theorem take_p (b : Nat) (l : List UInt8) (c : UInt8) (w : World) (h : RdB w b l) : Calls Tryz.prog 85 #[.pointer (some ⟨b, 0, none⟩), .int .u8 c.toNat] w fun e w' => e = .returned (.bool (hasC l c)) ∧ RdB w' b (takeC l c) ∧ Oth b w w' := by
  have c0 := h.cell
  have f0 := h.frozen 0
  have hlt := h.lt
  have H := Lib.hid h
  clear h
  cases l with
  | nil =>
    have e1 := sA_emp0
    go_enter Tryz.func85, Tryz.ntmps85
    go_wp2_with fail
    go_ret
    exact ⟨rfl, H.out, Oth.refl b w⟩
  | cons x r =>
    obtain ⟨s, hs⟩ : ∃ s, sA (x :: r) = s := ⟨_, rfl⟩
    have e1 : s.toList.isEmpty = false := by rw [← hs]; exact sA_emp1 x r
    have hz : 0 < s.size := by rw [← hs]; exact sA_pos x r
    have hs0 : s[0]'hz = x := by subst hs; exact sA_zero x r
    have ht : s.extract 1 s.size = sA r := by rw [← hs]; exact sA_tail x r
    have h1s : (1 : Int) ≤ s.size := by omega
    rw [hs] at c0
    have HS := Lib.hid hs
    clear hs
    by_cases hx : x = c
    · have g1 : ((x.toNat : Int) != c.toNat) = false := by rw [hx]; simp
      have HX := Lib.hid hx
      clear hx
      go_enter Tryz.func85, Tryz.ntmps85
      go_wp2_with fail
      go_ret
      refine ⟨?_, ?_, Oth.set b w 0 _⟩
      · rw [HX.out, hasC_cons]; rfl
      · rw [HX.out, takeC, hasC_cons, if_pos rfl]
        exact H.out.set r
    · have g1 : ((x.toNat : Int) != c.toNat) = true := by
        simp only [bne_iff_ne, ne_eq]
        intro h
        exact hx (UInt8.toNat.inj (by omega))
      have HX := Lib.hid hx
      clear hx
      go_enter Tryz.func85, Tryz.ntmps85
      go_wp2_with fail
      go_ret
      refine ⟨?_, ?_, Oth.refl b w⟩
      · rw [hasC_ne r HX.out]; rfl
      · rw [takeC, hasC_ne r HX.out]
        exact H.out
theorem digit_wrap {x : UInt8} (h : 48 ≤ x.toNat) : IntKind.u8.wrap ((x.toNat : Int) - 48) = (x.toNat : Int) - 48 := by
  have := x.toNat_lt
  show (((x.toNat : Int) - 48) % 256) = _
  omega
theorem rdD_rng (l : List UInt8) : 0 ≤ (rdD l).1 ∧ (rdD l).1 ≤ 9 := by
  cases l with
  | nil => exact ⟨by decide, by decide⟩
  | cons x r =>
    rw [rdD]
    by_cases h : digC x = true
    · rw [if_pos h]
      unfold digC at h
      simp at h
      dsimp only
      omega
    · rw [if_neg h]
      exact ⟨Int.le_refl 0, show (0 : Int) ≤ 9 by decide⟩
theorem rdig_p (b : Nat) (l : List UInt8) (w : World) (h : RdB w b l) : Calls Tryz.prog 87 #[.pointer (some ⟨b, 0, none⟩)] w fun e w' => e = .returned (.int .i64 (rdD l).1) ∧ RdB w' b (rdD l).2 ∧ Oth b w w' := by
  have c0 := h.cell
  have f0 := h.frozen 0
  have hlt := h.lt
  have H := Lib.hid h
  clear h
  cases l with
  | nil =>
    have e1 := sA_emp0
    go_enter Tryz.func87, Tryz.ntmps87
    go_wp2_with fail
    go_ret
    exact ⟨rfl, H.out, Oth.refl b w⟩
  | cons x r =>
    obtain ⟨s, hs⟩ : ∃ s, sA (x :: r) = s := ⟨_, rfl⟩
    have e1 : s.toList.isEmpty = false := by rw [← hs]; exact sA_emp1 x r
    have hz : 0 < s.size := by rw [← hs]; exact sA_pos x r
    have hs0 : s[0]'hz = x := by subst hs; exact sA_zero x r
    have ht : s.extract 1 s.size = sA r := by rw [← hs]; exact sA_tail x r
    have h1s : (1 : Int) ≤ s.size := by omega
    rw [hs] at c0
    have HS := Lib.hid hs
    clear hs
    have hx256 : x.toNat < 256 := x.toNat_lt
    by_cases h1 : x.toNat < 48
    · have g1 : decide ((x.toNat : Int) < 48) = true := by simp; omega
      have HX := Lib.hid (show digC x = false by unfold digC; simp; omega)
      clear h1
      go_enter Tryz.func87, Tryz.ntmps87
      go_wp2_with fail
      go_ret
      refine ⟨?_, ?_, Oth.refl b w⟩
      · rw [rdD, HX.out]; rfl
      · rw [rdD, HX.out]
        exact H.out
    by_cases h2 : 57 < x.toNat
    · have g1 : decide ((x.toNat : Int) < 48) = false := by simp; omega
      have g2 : decide (57 < (x.toNat : Int)) = true := by simp; omega
      have HX := Lib.hid (show digC x = false by unfold digC; simp; omega)
      clear h1 h2
      go_enter Tryz.func87, Tryz.ntmps87
      go_wp2_with fail
      go_ret
      refine ⟨?_, ?_, Oth.refl b w⟩
      · rw [rdD, HX.out]; rfl
      · rw [rdD, HX.out]
        exact H.out
    · have g1 : decide ((x.toNat : Int) < 48) = false := by simp; omega
      have g2 : decide (57 < (x.toNat : Int)) = false := by simp; omega
      have g3 := digit_wrap (x := x) (by omega)
      have HX := Lib.hid (show digC x = true by unfold digC; simp; omega)
      have b1 : 48 ≤ x.toNat := by omega
      have b2 : x.toNat ≤ 57 := by omega
      clear h1 h2
      go_enter Tryz.func87, Tryz.ntmps87
      go_wp2_with fail
      go_ret
      refine ⟨?_, ?_, Oth.set b w 0 _⟩
      · rw [rdD, HX.out]; rfl
      · rw [rdD, HX.out]
        exact H.out.set r
theorem rnum_p (b : Nat) (l : List UInt8) (w : World) (h : RdB w b l) : Calls Tryz.prog 112 #[.pointer (some ⟨b, 0, none⟩)] w fun e w' => e = .returned (.int .i64 (rdN l).1) ∧ RdB w' b (rdN l).2 ∧ Oth b w w' := by
  have hd0 := rdD_rng l
  obtain ⟨m, hm⟩ : ∃ m, (rdD l).1 = m := ⟨_, rfl⟩
  obtain ⟨l1, hl1⟩ : ∃ m, (rdD l).2 = m := ⟨_, rfl⟩
  have hN : rdN l = if hasD l1 then (10 * m + (rdD l1).1, (rdD l1).2) else rdD l := by unfold rdN; rw [hm, hl1]
  rw [hm] at hd0
  obtain ⟨d0, d9⟩ := hd0
  have hlt := h.lt
  have H := Lib.hid h
  have HM := Lib.hid hm
  have HL1 := Lib.hid hl1
  have HN := Lib.hid hN
  clear h hm hl1 hN
  go_enter Tryz.func112, Tryz.ntmps112
  go_wp2_with fail
  refine (rdig_p b l w H.out).mono ?_
  rintro e w1 ⟨rfl, hr1, ho1⟩
  rw [HM.out]
  rw [HL1.out] at hr1
  have c0 := hr1.cell
  have f0 := hr1.frozen 0
  have hlt1 := hr1.lt
  have H1 := Lib.hid hr1
  have HO1 := Lib.hid ho1
  clear hr1 ho1
  cases l1 with
  | nil =>
    have e1 := sA_emp0
    go_wp2_with fail
    go_ret
    refine ⟨?_, ?_, HO1.out⟩
    · rw [HN.out]; show Ending.returned _ = Ending.returned (.int .i64 (rdD l).1); rw [HM.out]; rfl
    · rw [HN.out]; show RdB _ _ (rdD l).2; rw [HL1.out]; exact H1.out
  | cons x r =>
    obtain ⟨s, hs⟩ : ∃ s, sA (x :: r) = s := ⟨_, rfl⟩
    have e1 : s.toList.isEmpty = false := by rw [← hs]; exact sA_emp1 x r
    have hz : 0 < s.size := by rw [← hs]; exact sA_pos x r
    have hs0 : s[0]'hz = x := by subst hs; exact sA_zero x r
    have ht : s.extract 1 s.size = sA r := by rw [← hs]; exact sA_tail x r
    have h1s : (1 : Int) ≤ s.size := by omega
    rw [hs] at c0
    have HS := Lib.hid hs
    clear hs
    have hx256 : x.toNat < 256 := x.toNat_lt
    have hno : digC x = false → rdN l = (m, x :: r) := fun h => by rw [HN.out, if_neg (by simp [hasD, h]), ← HM.out, ← HL1.out]
    have hyes : digC x = true → rdN l = (10 * m + (rdD (x :: r)).1, (rdD (x :: r)).2) := fun h => by rw [HN.out, if_pos (by simp [hasD, h])]
    have HNO := Lib.hid hno
    have HYES := Lib.hid hyes
    clear hno hyes
    by_cases h1 : x.toNat < 48
    · have g1 : decide (48 ≤ (x.toNat : Int)) = false := by simp; omega
      have HX := Lib.hid (HNO.out (by unfold digC; simp; omega))
      clear h1
      go_wp2_with fail
      go_ret
      refine ⟨?_, ?_, HO1.out⟩
      · rw [HX.out]; rfl
      · rw [HX.out]
        exact H1.out
    by_cases h2 : 57 < x.toNat
    · have g1 : decide (48 ≤ (x.toNat : Int)) = true := by simp; omega
      have g2 : decide ((x.toNat : Int) ≤ 57) = false := by simp; omega
      have HX := Lib.hid (HNO.out (by unfold digC; simp; omega))
      clear h1 h2
      go_wp2_with fail
      go_ret
      refine ⟨?_, ?_, HO1.out⟩
      · rw [HX.out]; rfl
      · rw [HX.out]
        exact H1.out
    · have g1 : decide (48 ≤ (x.toNat : Int)) = true := by simp; omega
      have g2 : decide ((x.toNat : Int) ≤ 57) = true := by simp; omega
      have HX := Lib.hid (HYES.out (by unfold digC; simp; omega))
      have hd1 := rdD_rng (x :: r)
      obtain ⟨m2, hm2⟩ : ∃ m, (rdD (x :: r)).1 = m := ⟨_, rfl⟩
      rw [hm2] at hd1
      obtain ⟨d20, d29⟩ := hd1
      have HM2 := Lib.hid hm2
      clear h1 h2 hm2
      go_wp2_with fail
      refine (rdig_p b (x :: r) _ H1.out).mono ?_
      rintro e w2 ⟨rfl, hr2, ho2⟩
      rw [HM2.out]
      have H2 := Lib.hid hr2
      have HO2 := Lib.hid (HO1.out.trans ho2)
      clear hr2 ho2
      go_wp2_with fail
      go_ret
      refine ⟨?_, ?_, HO2.out⟩
      · rw [HX.out, HM2.out]; rfl
      · rw [HX.out]
        exact H2.out
theorem rsrc_p (b : Nat) (t : Int) (l : List UInt8) (w : World) (h : RdB w b l) : Calls Tryz.prog 86 #[.pointer (some ⟨b, 0, none⟩), .int .u8 t] w fun e w' => e = .returned (.int .u8 (p2 t l).1) ∧ RdB w' b (p2 t l).2 ∧ Oth b w w' := by
  have H := Lib.hid h
  clear h
  obtain ⟨R, hR⟩ : ∃ R, p2 t l = R := ⟨_, rfl⟩
  rw [hR]
  unfold p2 at hR
  obtain ⟨v1, hv1⟩ : ∃ v, hasC l 98 = v := ⟨_, rfl⟩
  obtain ⟨v2, hv2⟩ : ∃ v, hasC l 108 = v := ⟨_, rfl⟩
  obtain ⟨v3, hv3⟩ : ∃ v, hasC l 111 = v := ⟨_, rfl⟩
  obtain ⟨v4, hv4⟩ : ∃ v, hasC l 46 = v := ⟨_, rfl⟩
  rw [hv1, hv2, hv3, hv4] at hR
  have HR := Lib.hid hR
  have HV1 := Lib.hid hv1
  have HV2 := Lib.hid hv2
  have HV3 := Lib.hid hv3
  have HV4 := Lib.hid hv4
  clear hv1 hv2 hv3 hv4 hR
  cases v1
  case true =>
    have HRV := Lib.hid (show R = (2, l.tail) by rw [← HR.out]; rfl)
    go_enter Tryz.func86, Tryz.ntmps86
    go_wp2_with fail
    refine (take_p b l 98 w H.out).mono ?_
    rintro e w1 ⟨rfl, hr1, ho1⟩
    rw [HV1.out]
    rw [takeC, HV1.out] at hr1
    have H1 := Lib.hid hr1
    have HO1 := Lib.hid ho1
    clear hr1 ho1
    go_wp2_with fail
    go_ret
    refine ⟨?_, ?_, HO1.out⟩
    · rw [HRV.out]; rfl
    · rw [HRV.out]; exact H1.out
  have HST1 := Lib.hid (show ∀ w' : World, RdB w' b (takeC l 98) → RdB w' b l from fun w' h => by rw [takeC, HV1.out] at h; exact h)
  cases v2
  case true =>
    have HRV := Lib.hid (show R = (3, l.tail) by rw [← HR.out]; rfl)
    go_enter Tryz.func86, Tryz.ntmps86
    go_wp2_with fail
    refine (take_p b l 98 w H.out).mono ?_
    rintro e w1 ⟨rfl, hr1, ho1⟩
    rw [HV1.out]
    have H1 := Lib.hid (HST1.out _ hr1)
    have HO1 := Lib.hid ho1
    clear hr1 ho1
    go_wp2_with fail
    refine (take_p b l 108 _ H1.out).mono ?_
    rintro e w2 ⟨rfl, hr1, ho1⟩
    rw [HV2.out]
    rw [takeC, HV2.out] at hr1
    have H2 := Lib.hid hr1
    have HO2 := Lib.hid (HO1.out.trans ho1)
    clear hr1 ho1
    go_wp2_with fail
    go_ret
    refine ⟨?_, ?_, HO2.out⟩
    · rw [HRV.out]; rfl
    · rw [HRV.out]; exact H2.out
  have HST2 := Lib.hid (show ∀ w' : World, RdB w' b (takeC l 108) → RdB w' b l from fun w' h => by rw [takeC, HV2.out] at h; exact h)
  by_cases ht : t = 2
  · have g1 : (t == 2) = true := by simpa using ht
    have HT := Lib.hid ht
    clear ht
    cases v3
    case true =>
      have HRV := Lib.hid (show R = (1, l.tail) by rw [← HR.out]; simp only [Bool.false_eq_true, if_false, if_true]; rw [if_pos HT.out])
      go_enter Tryz.func86, Tryz.ntmps86
      go_wp2_with fail
      refine (take_p b l 98 w H.out).mono ?_
      rintro e w1 ⟨rfl, hr1, ho1⟩
      rw [HV1.out]
      have H1 := Lib.hid (HST1.out _ hr1)
      have HO1 := Lib.hid ho1
      clear hr1 ho1
      go_wp2_with fail
      refine (take_p b l 108 _ H1.out).mono ?_
      rintro e w2 ⟨rfl, hr1, ho1⟩
      rw [HV2.out]
      have H2 := Lib.hid (HST2.out _ hr1)
      have HO2 := Lib.hid (HO1.out.trans ho1)
      clear hr1 ho1
      go_wp2_with fail
      refine (take_p b l 111 _ H2.out).mono ?_
      rintro e w3 ⟨rfl, hr1, ho1⟩
      rw [HV3.out]
      rw [takeC, HV3.out] at hr1
      have H3 := Lib.hid hr1
      have HO3 := Lib.hid (HO2.out.trans ho1)
      clear hr1 ho1
      go_wp2_with fail
      go_ret
      refine ⟨?_, ?_, HO3.out⟩
      · rw [HRV.out]; rfl
      · rw [HRV.out]; exact H3.out
    case false =>
      have HRV := Lib.hid (show R = (0, l) by rw [← HR.out]; simp only [Bool.false_eq_true, if_false, if_true]; rw [if_pos HT.out])
      go_enter Tryz.func86, Tryz.ntmps86
      go_wp2_with fail
      refine (take_p b l 98 w H.out).mono ?_
      rintro e w1 ⟨rfl, hr1, ho1⟩
      rw [HV1.out]
      have H1 := Lib.hid (HST1.out _ hr1)
      have HO1 := Lib.hid ho1
      clear hr1 ho1
      go_wp2_with fail
      refine (take_p b l 108 _ H1.out).mono ?_
      rintro e w2 ⟨rfl, hr1, ho1⟩
      rw [HV2.out]
      have H2 := Lib.hid (HST2.out _ hr1)
      have HO2 := Lib.hid (HO1.out.trans ho1)
      clear hr1 ho1
      go_wp2_with fail
      refine (take_p b l 111 _ H2.out).mono ?_
      rintro e w3 ⟨rfl, hr1, ho1⟩
      rw [HV3.out]
      rw [takeC, HV3.out] at hr1
      have H3 := Lib.hid hr1
      have HO3 := Lib.hid (HO2.out.trans ho1)
      clear hr1 ho1
      go_wp2_with fail
      go_ret
      refine ⟨?_, ?_, HO3.out⟩
      · rw [HRV.out]; rfl
      · rw [HRV.out]; exact H3.out
  · have g1 : (t == 2) = false := by simpa using ht
    have HT := Lib.hid ht
    clear ht
    cases v4
    case true =>
      have HRV := Lib.hid (show R = (0, l.tail) by rw [← HR.out]; simp only [Bool.false_eq_true, if_false, if_true]; rw [if_neg HT.out])
      go_enter Tryz.func86, Tryz.ntmps86
      go_wp2_with fail
      refine (take_p b l 98 w H.out).mono ?_
      rintro e w1 ⟨rfl, hr1, ho1⟩
      rw [HV1.out]
      have H1 := Lib.hid (HST1.out _ hr1)
      have HO1 := Lib.hid ho1
      clear hr1 ho1
      go_wp2_with fail
      refine (take_p b l 108 _ H1.out).mono ?_
      rintro e w2 ⟨rfl, hr1, ho1⟩
      rw [HV2.out]
      have H2 := Lib.hid (HST2.out _ hr1)
      have HO2 := Lib.hid (HO1.out.trans ho1)
      clear hr1 ho1
      go_wp2_with fail
      refine (take_p b l 46 _ H2.out).mono ?_
      rintro e w3 ⟨rfl, hr1, ho1⟩
      rw [HV4.out]
      rw [takeC, HV4.out] at hr1
      have H3 := Lib.hid hr1
      have HO3 := Lib.hid (HO2.out.trans ho1)
      clear hr1 ho1
      go_wp2_with fail
      go_ret
      refine ⟨?_, ?_, HO3.out⟩
      · rw [HRV.out]; rfl
      · rw [HRV.out]; exact H3.out
    case false =>
      have HRV := Lib.hid (show R = (1, l) by rw [← HR.out]; simp only [Bool.false_eq_true, if_false, if_true]; rw [if_neg HT.out])
      go_enter Tryz.func86, Tryz.ntmps86
      go_wp2_with fail
      refine (take_p b l 98 w H.out).mono ?_
      rintro e w1 ⟨rfl, hr1, ho1⟩
      rw [HV1.out]
      have H1 := Lib.hid (HST1.out _ hr1)
      have HO1 := Lib.hid ho1
      clear hr1 ho1
      go_wp2_with fail
      refine (take_p b l 108 _ H1.out).mono ?_
      rintro e w2 ⟨rfl, hr1, ho1⟩
      rw [HV2.out]
      have H2 := Lib.hid (HST2.out _ hr1)
      have HO2 := Lib.hid (HO1.out.trans ho1)
      clear hr1 ho1
      go_wp2_with fail
      refine (take_p b l 46 _ H2.out).mono ?_
      rintro e w3 ⟨rfl, hr1, ho1⟩
      rw [HV4.out]
      rw [takeC, HV4.out] at hr1
      have H3 := Lib.hid hr1
      have HO3 := Lib.hid (HO2.out.trans ho1)
      clear hr1 ho1
      go_wp2_with fail
      go_ret
      refine ⟨?_, ?_, HO3.out⟩
      · rw [HRV.out]; rfl
      · rw [HRV.out]; exact H3.out
end

section
/-! Chapter 7: the reader of symbols: the part that tells of a dismissal. -/
open Go.RowKit
set_option maxRecDepth 100000
set_option maxHeartbeats 4000000
/-- All blocks but b and h stand. -/
structure Oth2 (b h : Nat) (w w' : World) : Prop where
  os : w'.os = w.os
  tape : w'.tape = w.tape
  output : w'.output = w.output
  size : w.heap.size ≤ w'.heap.size
  block : ∀ k, k < w.heap.size → k ≠ b → k ≠ h → w'.heap[k]? = w.heap[k]?
theorem Oth2.refl (b h : Nat) (w : World) : Oth2 b h w w := ⟨rfl, rfl, rfl, Nat.le_refl _, fun _ _ _ _ => rfl⟩
theorem Oth2.one {b h : Nat} {w w1 w2 : World} (H : Oth2 b h w w1) (h2 : Oth b w1 w2) : Oth2 b h w w2 :=
  ⟨h2.os.trans H.os, h2.tape.trans H.tape, h2.output.trans H.output, Nat.le_trans H.size h2.size, fun k hk hne hne2 => (h2.block k (Nat.lt_of_lt_of_le hk H.size) hne).trans (H.block k hk hne hne2)⟩
theorem Oth2.two {b h : Nat} {w w1 w2 : World} (H : Oth2 b h w w1) (h2 : Oth h w1 w2) : Oth2 b h w w2 :=
  ⟨h2.os.trans H.os, h2.tape.trans H.tape, h2.output.trans H.output, Nat.le_trans H.size h2.size, fun k hk hne hne2 => (h2.block k (Nat.lt_of_lt_of_le hk H.size) hne2).trans (H.block k hk hne hne2)⟩
theorem Oth2.below {b h B : Nat} {w0 w w' : World} (H : Oth2 b h w w') (hb : Below B w0 w) (hB : B ≤ b) (hB2 : B ≤ h) (hBw : B ≤ w.heap.size) : Below B w0 w' :=
  ⟨H.os.trans hb.os, H.tape.trans hb.tape, H.output.trans hb.output, Nat.le_trans hb.size H.size, fun k hk => (H.block k (by omega) (by omega) (by omega)).trans (hb.block k hk)⟩
theorem Oth2.blk {b h g : Nat} {w w' : World} {e : TypeId} {xs : List Value} (H : Oth2 b h w w') (hg : Blk w g e xs) (hne : g ≠ b) (hne2 : g ≠ h) : Blk w' g e xs := by
  unfold Blk
  rw [H.block g hg.lt hne hne2]
  exact hg
theorem idx_ib_all : ∀ n, n < 256 → IntKind.u8.wrap (max (Lib.indexByte lettersL (UInt8.ofNat n)) 0) = idxL (UInt8.ofNat n) := by decide +kernel
theorem idx_ib (x : UInt8) : IntKind.u8.wrap (max (Lib.indexByte lettersL x) 0) = idxL x := by
  have h := idx_ib_all x.toNat x.toNat_lt
  rwa [UInt8.ofNat_toNat] at h
/-- The state: the reader's rest, the delivery, the rest of memory. -/
structure WSt (b h : Nat) (w wr : World) (l : List UInt8) (d : Del) : Prop where
  rd : RdB wr b l
  dl : Blk wr h 27 (delE d)
  ot : Oth2 b h w wr
theorem WSt.read {b h : Nat} {w wr w1 : World} {l l' : List UInt8} {d : Del} (H : WSt b h w wr l d) (hne : h ≠ b) (hr : RdB w1 b l') (ho : Oth b wr w1) : WSt b h w w1 l' d := ⟨hr, ho.blk H.dl hne, H.ot.one ho⟩
theorem WSt.set {b h : Nat} {w wr : World} {l : List UInt8} {d d' : Del} (H : WSt b h w wr l d) (hne : h ≠ b) (j : Nat) (u : Value) (hd : (delE d).set j u = delE d') : WSt b h w (wr.setCell ⟨h, j, none⟩ u) l d' :=
  ⟨(Oth.set h wr j u).blk H.rd (fun e => hne e.symm), by rw [← hd]; exact H.dl.set j u, H.ot.two (Oth.set h wr j u)⟩
theorem WSt.setR {b h : Nat} {w wr : World} {l : List UInt8} {d : Del} (H : WSt b h w wr l d) (hne : h ≠ b) (l' : List UInt8) : WSt b h w (wr.setCell ⟨b, 0, none⟩ (.string (sA l'))) l' d :=
  H.read hne (H.rd.set l') (Oth.set b wr 0 _)
theorem rwicket_p (b h : Nat) (hne : h ≠ b) (l : List UInt8) (ty s1 runs short bd : Int) (cr : Bool) (sec : Int) (w : World) (hw : WSt b h w w l ⟨ty, s1, runs, short, bd, cr, 0, 0, 0, 0, false, sec⟩) :
    Calls Tryz.prog 88 #[.pointer (some ⟨b, 0, none⟩), .pointer (some ⟨h, 0, none⟩)] w fun e w' => e = .returned (.tuple #[]) ∧ WSt b h w w' (p7 l).2 ⟨ty, s1, runs, short, bd, cr, (p7 l).1.how, (p7 l).1.vic, (p7 l).1.fd, (p7 l).1.sd, (p7 l).1.sub, sec⟩ := by
  have HW := Lib.hid hw
  clear hw
  obtain ⟨R, hR⟩ : ∃ R, p7 l = R := ⟨_, rfl⟩
  rw [hR]
  unfold p7 at hR
  obtain ⟨v1, hv1⟩ : ∃ v, hasC l 47 = v := ⟨_, rfl⟩
  rw [hv1] at hR
  have HR := Lib.hid hR
  have HV1 := Lib.hid hv1
  clear hv1 hR
  have c0 := HW.out.rd.cell
  have f0 := HW.out.rd.frozen 0
  have hlb := HW.out.rd.lt
  have hlh := HW.out.dl.lt
  cases v1
  case false =>
    go_enter Tryz.func88, Tryz.ntmps88
    go_wp2_with fail
    refine (take_p b l 47 w HW.out.rd).mono ?_
    rintro e w1 ⟨rfl, hr1, ho1⟩
    rw [HV1.out]
    rw [takeC, HV1.out] at hr1
    have H1 := Lib.hid (HW.out.read hne hr1 ho1)
    clear hr1 ho1
    go_wp2_with fail
    (try simp only [Exit.inBlock, Exit.then])
    refine bodyPost_ret (results_none rfl _ _ _) rfl ?_
    have : R = (⟨0, 0, 0, 0, false⟩, l) := by rw [← HR.out]; rfl
    rw [this]
    exact ⟨rfl, H1.out⟩
  obtain ⟨l1, hl1⟩ : ∃ x, l.tail = x := ⟨_, rfl⟩
  have HL1 := Lib.hid hl1
  clear hl1
  go_enter Tryz.func88, Tryz.ntmps88
  go_wp2_with fail
  refine (take_p b l 47 w HW.out.rd).mono ?_
  rintro e w1 ⟨rfl, hr1, ho1⟩
  rw [HV1.out]
  rw [takeC, HV1.out, if_pos rfl, HL1.out] at hr1
  have H1 := Lib.hid (HW.out.read hne hr1 ho1)
  clear hr1 ho1 c0 f0 hlb hlh
  have c0 := H1.out.rd.cell
  have f0 := H1.out.rd.frozen 0
  have hlb := H1.out.rd.lt
  have hlh := H1.out.dl.lt
  cases l1 with
  | nil =>
    have e1 := sA_emp0
    go_wp2_with fail
    (try simp only [Exit.inBlock, Exit.then])
    refine bodyPost_ret (results_none rfl _ _ _) rfl ?_
    have : R = (⟨0, 0, 0, 0, false⟩, []) := by rw [← HR.out, HL1.out]; rfl
    rw [this]
    exact ⟨rfl, H1.out⟩
  | cons x r =>
    have HRR := Lib.hid (show R = (if hasC (rdD r).2 40 then (⟨idxL x, (rdD r).1, (inner (rdD r).2.tail).1.1, (inner (rdD r).2.tail).1.2.1, (inner (rdD r).2.tail).1.2.2⟩, (inner (rdD r).2.tail).2) else (⟨idxL x, (rdD r).1, 0, 0, false⟩, (rdD r).2)) by rw [← HR.out, HL1.out]; rfl)
    clear HR
    obtain ⟨s, hs⟩ : ∃ s, sA (x :: r) = s := ⟨_, rfl⟩
    have e1 : s.toList.isEmpty = false := by rw [← hs]; exact sA_emp1 x r
    have hz : 0 < s.size := by rw [← hs]; exact sA_pos x r
    have hs0 : s[0]'hz = x := by subst hs; exact sA_zero x r
    have ht : s.extract 1 s.size = sA r := by rw [← hs]; exact sA_tail x r
    have h1s : (1 : Int) ≤ s.size := by omega
    rw [hs] at c0
    have HS := Lib.hid hs
    clear hs
    go_wp2_with fail
    obtain ⟨k, hk⟩ : ∃ k, Lib.indexByte (⟨#[78, 66, 67, 76, 83, 72, 82, 84, 79, 77, 81]⟩ : ByteArray).data.toList (x.toNat : Int).toNat.toUInt8 = k := ⟨_, rfl⟩
    have HK := Lib.hid hk
    have hk2 : IntKind.u8.wrap (max k 0) = idxL x := by rw [← hk, ← idx_ib x]; congr 3; simp
    clear hk
    have d6 := H1.out.dl.cell 6
    simp only [delE, List.getElem?_cons_succ, List.getElem?_cons_zero] at d6
    have z6 := H1.out.dl.frozen 6
    obtain ⟨w2, hw2⟩ : ∃ y, w1.setCell ⟨h, 6, none⟩ (.int .u8 (idxL x)) = y := ⟨_, rfl⟩
    have H2 : Hid (WSt b h w w2 (x :: r) ⟨ty, s1, runs, short, bd, cr, idxL x, 0, 0, 0, false, sec⟩) := Lib.hid (by rw [← hw2]; exact H1.out.set hne 6 _ rfl)
    have Sw2 := Lib.hid hw2
    clear hw2
    have c0b := H2.out.rd.cell
    rw [HS.out] at c0b
    have f0b := H2.out.rd.frozen 0
    obtain ⟨w3, hw3⟩ : ∃ y, w2.setCell ⟨b, 0, none⟩ (.string (sA r)) = y := ⟨_, rfl⟩
    have H3 := Lib.hid (show WSt b h w w3 r ⟨ty, s1, runs, short, bd, cr, idxL x, 0, 0, 0, false, sec⟩ by rw [← hw3]; exact H2.out.setR hne r)
    have Sw3 := Lib.hid hw3
    clear hw3
    refine (Tryz.ib_p _ _ _).mono ?_
    rintro e w1b ⟨rfl, rfl⟩
    rw [HK.out]
    go_wp2_with (first | rw [Sw2.out] | rw [Sw3.out])
    clear c0 c0b f0 f0b d6 z6 hs0 ht hk2 HK Sw2 Sw3 H1 H2
    obtain ⟨v, hv⟩ : ∃ y, (rdD r).1 = y := ⟨_, rfl⟩
    have Nv := Lib.hid hv
    clear hv
    obtain ⟨l4, hl4⟩ : ∃ y, (rdD r).2 = y := ⟨_, rfl⟩
    have Nl4 := Lib.hid hl4
    clear hl4
    refine (rdig_p b r w3 H3.out.rd).mono ?_
    rintro e w4 ⟨rfl, hr1, ho1⟩
    rw [Nv.out]
    rw [Nl4.out] at hr1
    have H4 := Lib.hid (H3.out.read hne hr1 ho1)
    clear hr1 ho1
    have d7 := H4.out.dl.cell 7
    simp only [delE, List.getElem?_cons_succ, List.getElem?_cons_zero] at d7
    have z7 := H4.out.dl.frozen 7
    obtain ⟨w5, hw5⟩ : ∃ y, w4.setCell ⟨h, 7, none⟩ (.int .i64 v) = y := ⟨_, rfl⟩
    have H5 : Hid (WSt b h w w5 l4 ⟨ty, s1, runs, short, bd, cr, idxL x, v, 0, 0, false, sec⟩) := Lib.hid (by rw [← hw5]; exact H4.out.set hne 7 _ rfl)
    have Sw5 := Lib.hid hw5
    clear hw5
    go_wp2_with (rw [Sw5.out])
    clear d7 z7
    obtain ⟨v40, hv40⟩ : ∃ y, hasC l4 40 = y := ⟨_, rfl⟩
    have Nv40 := Lib.hid hv40
    clear hv40
    cases v40
    · refine (take_p b l4 40 w5 H5.out.rd).mono ?_
      rintro e w6 ⟨rfl, hr1, ho1⟩
      rw [Nv40.out]
      rw [takeC, Nv40.out] at hr1
      have H6 := Lib.hid (H5.out.read hne hr1 ho1)
      clear hr1 ho1
      go_wp2_with fail
      (try simp only [Exit.inBlock, Exit.then])
      refine bodyPost_ret (results_none rfl _ _ _) rfl ?_
      have hfin : R = (⟨idxL x, v, 0, 0, false⟩, l4) := by
        rw [HRR.out, Nl4.out, Nv40.out, Nv.out]; rfl
      rw [hfin]
      exact ⟨rfl, H6.out⟩
    · obtain ⟨l6, hl6⟩ : ∃ y, l4.tail = y := ⟨_, rfl⟩
      have Nl6 := Lib.hid hl6
      clear hl6
      refine (take_p b l4 40 w5 H5.out.rd).mono ?_
      rintro e w6 ⟨rfl, hr1, ho1⟩
      rw [Nv40.out]
      rw [takeC, Nv40.out, if_pos rfl, Nl6.out] at hr1
      have H6 := Lib.hid (H5.out.read hne hr1 ho1)
      clear hr1 ho1
      go_wp2_with fail
      obtain ⟨n1, hn1⟩ : ∃ y, (rdN l6).1 = y := ⟨_, rfl⟩
      have Nn1 := Lib.hid hn1
      clear hn1
      obtain ⟨l7, hl7⟩ : ∃ y, (rdN l6).2 = y := ⟨_, rfl⟩
      have Nl7 := Lib.hid hl7
      clear hl7
      refine (rnum_p b l6 w6 H6.out.rd).mono ?_
      rintro e w7 ⟨rfl, hr1, ho1⟩
      rw [Nn1.out]
      rw [Nl7.out] at hr1
      have H7 := Lib.hid (H6.out.read hne hr1 ho1)
      clear hr1 ho1
      have d8 := H7.out.dl.cell 8
      simp only [delE, List.getElem?_cons_succ, List.getElem?_cons_zero] at d8
      have z8 := H7.out.dl.frozen 8
      obtain ⟨w8, hw8⟩ : ∃ y, w7.setCell ⟨h, 8, none⟩ (.int .i64 n1) = y := ⟨_, rfl⟩
      have H8 : Hid (WSt b h w w8 l7 ⟨ty, s1, runs, short, bd, cr, idxL x, v, n1, 0, false, sec⟩) := Lib.hid (by rw [← hw8]; exact H7.out.set hne 8 _ rfl)
      have Sw8 := Lib.hid hw8
      clear hw8
      go_wp2_with (rw [Sw8.out])
      clear d8 z8
      obtain ⟨v44, hv44⟩ : ∃ y, hasC l7 44 = y := ⟨_, rfl⟩
      have Nv44 := Lib.hid hv44
      clear hv44
      have HRS := Lib.hid (show R = (⟨idxL x, v, (inner l6).1.1, (inner l6).1.2.1, (inner l6).1.2.2⟩, (inner l6).2) by rw [HRR.out, Nl4.out, Nv40.out, Nv.out, Nl6.out]; rfl)
      clear HRR
      cases v44
      · refine (take_p b l7 44 w8 H8.out.rd).mono ?_
        rintro e w9 ⟨rfl, hr1, ho1⟩
        rw [Nv44.out]
        rw [takeC, Nv44.out] at hr1
        have H9 := Lib.hid (H8.out.read hne hr1 ho1)
        clear hr1 ho1
        go_wp2_with fail
        obtain ⟨v115, hv115⟩ : ∃ y, hasC l7 115 = y := ⟨_, rfl⟩
        have Nv115 := Lib.hid hv115
        clear hv115
        obtain ⟨lc, hlc⟩ : ∃ y, takeC l7 115 = y := ⟨_, rfl⟩
        have Nlc := Lib.hid hlc
        clear hlc
        refine (take_p b l7 115 w9 H9.out.rd).mono ?_
        rintro e wa ⟨rfl, hr1, ho1⟩
        rw [Nv115.out]
        rw [Nlc.out] at hr1
        have Ha := Lib.hid (H9.out.read hne hr1 ho1)
        clear hr1 ho1
        have d10 := Ha.out.dl.cell 10
        simp only [delE, List.getElem?_cons_succ, List.getElem?_cons_zero] at d10
        have z10 := Ha.out.dl.frozen 10
        obtain ⟨wb, hwb⟩ : ∃ y, wa.setCell ⟨h, 10, none⟩ (.bool v115) = y := ⟨_, rfl⟩
        have Hb : Hid (WSt b h w wb lc ⟨ty, s1, runs, short, bd, cr, idxL x, v, n1, 0, v115, sec⟩) := Lib.hid (by rw [← hwb]; exact Ha.out.set hne 10 _ rfl)
        have Swb := Lib.hid hwb
        clear hwb
        go_wp2_with (rw [Swb.out])
        clear d10 z10
        refine (take_p b lc 41 wb Hb.out.rd).mono ?_
        rintro e wc ⟨rfl, hr1, ho1⟩
        have Hc := Lib.hid (Hb.out.read hne hr1 ho1)
        clear hr1 ho1
        go_wp2_with fail
        go_end0
        have hfin : R = (⟨idxL x, v, n1, 0, v115⟩, takeC lc 41) := by
          rw [HRS.out]; unfold inner; dsimp only; rw [Nl7.out, Nv44.out, Nn1.out]; simp only [Bool.false_eq_true, if_false]; rw [Nv115.out, Nlc.out]
        rw [hfin]
        exact ⟨rfl, Hc.out⟩
      · obtain ⟨l9, hl9⟩ : ∃ y, l7.tail = y := ⟨_, rfl⟩
        have Nl9 := Lib.hid hl9
        clear hl9
        refine (take_p b l7 44 w8 H8.out.rd).mono ?_
        rintro e w9 ⟨rfl, hr1, ho1⟩
        rw [Nv44.out]
        rw [takeC, Nv44.out, if_pos rfl, Nl9.out] at hr1
        have H9 := Lib.hid (H8.out.read hne hr1 ho1)
        clear hr1 ho1
        go_wp2_with fail
        obtain ⟨n2, hn2⟩ : ∃ y, (rdN l9).1 = y := ⟨_, rfl⟩
        have Nn2 := Lib.hid hn2
        clear hn2
        obtain ⟨l10, hl10⟩ : ∃ y, (rdN l9).2 = y := ⟨_, rfl⟩
        have Nl10 := Lib.hid hl10
        clear hl10
        refine (rnum_p b l9 w9 H9.out.rd).mono ?_
        rintro e w10 ⟨rfl, hr1, ho1⟩
        rw [Nn2.out]
        rw [Nl10.out] at hr1
        have H10 := Lib.hid (H9.out.read hne hr1 ho1)
        clear hr1 ho1
        have d9 := H10.out.dl.cell 9
        simp only [delE, List.getElem?_cons_succ, List.getElem?_cons_zero] at d9
        have z9 := H10.out.dl.frozen 9
        obtain ⟨w11, hw11⟩ : ∃ y, w10.setCell ⟨h, 9, none⟩ (.int .i64 n2) = y := ⟨_, rfl⟩
        have H11 : Hid (WSt b h w w11 l10 ⟨ty, s1, runs, short, bd, cr, idxL x, v, n1, n2, false, sec⟩) := Lib.hid (by rw [← hw11]; exact H10.out.set hne 9 _ rfl)
        have Sw11 := Lib.hid hw11
        clear hw11
        go_wp2_with (rw [Sw11.out])
        clear d9 z9
        obtain ⟨v115, hv115⟩ : ∃ y, hasC l10 115 = y := ⟨_, rfl⟩
        have Nv115 := Lib.hid hv115
        clear hv115
        obtain ⟨lc, hlc⟩ : ∃ y, takeC l10 115 = y := ⟨_, rfl⟩
        have Nlc := Lib.hid hlc
        clear hlc
        refine (take_p b l10 115 w11 H11.out.rd).mono ?_
        rintro e wa ⟨rfl, hr1, ho1⟩
        rw [Nv115.out]
        rw [Nlc.out] at hr1
        have Ha := Lib.hid (H11.out.read hne hr1 ho1)
        clear hr1 ho1
        have d10 := Ha.out.dl.cell 10
        simp only [delE, List.getElem?_cons_succ, List.getElem?_cons_zero] at d10
        have z10 := Ha.out.dl.frozen 10
        obtain ⟨wb, hwb⟩ : ∃ y, wa.setCell ⟨h, 10, none⟩ (.bool v115) = y := ⟨_, rfl⟩
        have Hb : Hid (WSt b h w wb lc ⟨ty, s1, runs, short, bd, cr, idxL x, v, n1, n2, v115, sec⟩) := Lib.hid (by rw [← hwb]; exact Ha.out.set hne 10 _ rfl)
        have Swb := Lib.hid hwb
        clear hwb
        go_wp2_with (rw [Swb.out])
        clear d10 z10
        refine (take_p b lc 41 wb Hb.out.rd).mono ?_
        rintro e wc ⟨rfl, hr1, ho1⟩
        have Hc := Lib.hid (Hb.out.read hne hr1 ho1)
        clear hr1 ho1
        go_wp2_with fail
        go_end0
        have hfin : R = (⟨idxL x, v, n1, n2, v115⟩, takeC lc 41) := by
          rw [HRS.out]; unfold inner; dsimp only; rw [Nl7.out, Nv44.out, Nn1.out]; simp only [if_true]; rw [Nl9.out, Nl10.out, Nn2.out, Nv115.out, Nlc.out]
        rw [hfin]
        exact ⟨rfl, Hc.out⟩
end

section
/-! Chapter 7: Parse of the program. -/
open Go.RowKit
set_option maxRecDepth 100000
set_option maxHeartbeats 4000000
theorem guessP_how (l : List UInt8) : 0 ≤ (guessP l).how ∧ (guessP l).how ≤ 10 := by
  have hx : ∀ c, 0 ≤ idxL c ∧ idxL c ≤ 10 := fun c => by
    unfold idxL
    split
    · next i h =>
      have hi : i < lettersL.length := by
        rw [List.idxOf?, List.findIdx?_eq_some_iff_getElem] at h
        exact h.1
      have : lettersL.length = 11 := rfl
      omega
    · decide
  unfold guessP
  dsimp only
  unfold p7
  split
  · exact ⟨Int.le_refl 0, show (0 : Int) ≤ 10 by decide⟩
  split
  · exact ⟨Int.le_refl 0, show (0 : Int) ≤ 10 by decide⟩
  · dsimp only
    split
    · exact hx _
    · exact hx _
theorem p2_src (t : Int) (l : List UInt8) : 0 ≤ (p2 t l).1 := by
  unfold p2
  by_cases h1 : hasC l 98 = true
  · rw [if_pos h1]; exact (show (0 : Int) ≤ 2 by decide)
  rw [if_neg h1]
  by_cases h2 : hasC l 108 = true
  · rw [if_pos h2]; exact (show (0 : Int) ≤ 3 by decide)
  rw [if_neg h2]
  by_cases ht : t = 2
  · rw [if_pos ht]
    by_cases h3 : hasC l 111 = true
    · rw [if_pos h3]; exact (show (0 : Int) ≤ 1 by decide)
    · rw [if_neg h3]; exact Int.le_refl 0
  · rw [if_neg ht]
    by_cases h3 : hasC l 46 = true
    · rw [if_pos h3]; exact Int.le_refl 0
    · rw [if_neg h3]; exact (show (0 : Int) ≤ 1 by decide)
theorem guessP_src (l : List UInt8) : 0 ≤ (guessP l).src := p2_src _ _
theorem ba_beq (a b : ByteArray) : (a == b) = (a.data == b.data) := by cases a; cases b; rfl
theorem ba_self (a : ByteArray) : (a != a) = false := by simp [bne, ba_beq]
theorem ba_ne {a b : ByteArray} (h : a ≠ b) : (a != b) = true := by
  simp only [bne, ba_beq, Bool.not_eq_true', beq_eq_false_iff_ne, ne_eq]
  intro hd
  exact h (ByteArray.ext hd)
theorem api_info : (Tryz.prog.info? 27).map (·.size) = some 12 := by kernel_rfl
theorem sA_to (l : List UInt8) : (sA l).toList = l := by
  rw [ByteArray.toList_eq]
  rfl
theorem api_one (d : Del) : (delE d).toArray.all (·.oneCell') = true := by simp [delE, Value.oneCell']
theorem parse7_p (l : List UInt8) (hl : l.length ≤ 1000000) (w : World) (hw : LibW w) : Calls Tryz.prog 70 #[.string (sA l)] w fun e w' => e = .returned (.tuple #[delV (parD (guessP l) l).1, .int .i64 (parD (guessP l) l).2]) ∧ Below w.heap.size w w' := by
  have HL := Lib.hid hw
  clear hw
  have HG := Lib.hid (guessP_how l)
  obtain ⟨G, hG⟩ : ∃ G, guessP l = G := ⟨_, rfl⟩
  rw [hG] at HG
  rw [hG]
  obtain ⟨sl, hsl⟩ : ∃ y, sA l = y := ⟨_, rfl⟩
  have hlz : sl.size ≤ 1000000 := by rw [← hsl, sA_size]; exact hl
  rw [hsl]
  have HSL := Lib.hid hsl
  have HGG := Lib.hid hG
  clear hsl hG hl
  go_enter Tryz.func70, Tryz.ntmps70
  go_wp2_with fail
  obtain ⟨b, hb⟩ : ∃ b, w.heap.size + 1 = b := ⟨_, rfl⟩
  rw [hb]
  obtain ⟨h, hh⟩ : ∃ h, b + 1 = h := ⟨_, rfl⟩
  rw [hh]
  obtain ⟨W0, hW0⟩ : ∃ y, w.alloc (.cells (delE zeroD).toArray 27) = y := ⟨_, rfl⟩
  obtain ⟨w1, hw1⟩ : ∃ y, (W0.alloc (.cells #[.string sl] 128)).alloc (.cells (delE ⟨1, 0, 0, 0, 0, false, 0, 0, 0, 0, false, 0⟩).toArray 27) = y := ⟨_, rfl⟩
  have HZ := Lib.hid (show Blk W0 w.heap.size 27 (delE zeroD) by rw [← hW0]; exact Blk.new w _ _)
  have HWB := Lib.hid (show Below w.heap.size w W0 by rw [← hW0]; exact cur_new w _)
  have hs0 : W0.heap.size = b := by rw [← hW0, ← hb]; simp
  have hne : h ≠ b := by omega
  have hrb : w.heap.size < b := by omega
  have H1 : Hid (WSt b h W0 w1 l ⟨1, 0, 0, 0, 0, false, 0, 0, 0, 0, false, 0⟩) := Lib.hid (by
    have k1 : Blk (W0.alloc (.cells #[.string sl] 128)) b 128 [.string (sA l)] := by rw [HSL.out, ← hs0]; exact Blk.new W0 _ [.string sl]
    have hs1 : (W0.alloc (.cells #[.string sl] 128)).heap.size = h := by rw [World.size_alloc, hs0, hh]
    refine ⟨?_, ?_, ?_⟩
    · rw [← hw1]; exact k1.to (cur_new _ _)
    · rw [← hw1, ← hs1]; exact Blk.new _ _ (delE ⟨1, 0, 0, 0, 0, false, 0, 0, 0, 0, false, 0⟩)
    · have hbb : Below W0.heap.size W0 w1 := by rw [← hw1]; exact cur_two W0 _ _
      exact ⟨hbb.os, hbb.tape, hbb.output, hbb.size, fun k hk _ _ => hbb.block k hk⟩)
  have SW1 := Lib.hid (show ((w.alloc (Obj.cells #[.int .u8 0, .int .u8 0, .int .i64 0, .int .i64 0, .int .i64 0, .bool false, .int .u8 0, .int .i64 0, .int .i64 0, .int .i64 0, .bool false, .int .i64 0] 27)).alloc (Obj.cells #[.string sl] 128)).alloc (Obj.cells #[.int .u8 1, .int .u8 0, .int .i64 0, .int .i64 0, .int .i64 0, .bool false, .int .u8 0, .int .i64 0, .int .i64 0, .int .i64 0, .bool false, .int .i64 0] 27) = w1 by rw [← hw1, ← hW0]; rfl)
  rw [SW1.out]
  clear hW0 hw1 SW1
  have HB := Lib.hid hb
  have HH := Lib.hid hh
  have HS0 := Lib.hid hs0
  clear hb hh hs0
  obtain ⟨t1, ht1⟩ : ∃ y, (p1 l).1 = y := ⟨_, rfl⟩
  have Nt1 := Lib.hid ht1
  clear ht1
  obtain ⟨l1, hl1⟩ : ∃ y, (p1 l).2 = y := ⟨_, rfl⟩
  have Nl1 := Lib.hid hl1
  clear hl1
  obtain ⟨v1, hv1⟩ : ∃ y, hasC l 119 = y := ⟨_, rfl⟩
  have Nv1 := Lib.hid hv1
  clear hv1
  obtain ⟨v2, hv2⟩ : ∃ y, hasC l 110 = y := ⟨_, rfl⟩
  have Nv2 := Lib.hid hv2
  clear hv2
  obtain ⟨lt, hlt⟩ : ∃ y, l.tail = y := ⟨_, rfl⟩
  have Nlt := Lib.hid hlt
  clear hlt
  have HP1 := Lib.hid (show (if v1 = true then ((2 : Int), lt) else if v2 = true then (3, lt) else (1, l)) = (t1, l1) by rw [← Nt1.out, ← Nl1.out, ← Nv1.out, ← Nv2.out, ← Nlt.out]; rfl)
  refine (take_p b l 119 w1 H1.out.rd).mono ?_
  rintro e w2 ⟨rfl, hr1, ho1⟩
  rw [Nv1.out]
  rw [takeC, Nv1.out, Nlt.out] at hr1
  have H2 := Lib.hid (H1.out.read hne hr1 ho1)
  clear hr1 ho1
  go_upto_if 13 with fail
  go_cut [] (fun wx => WSt b h W0 wx l1 ⟨t1, 0, 0, 0, 0, false, 0, 0, 0, 0, false, 0⟩)
  case first =>
    cases v1
    case true =>
      have d0 := H2.out.dl.cell 0
      simp only [delE, List.getElem?_cons_succ, List.getElem?_cons_zero] at d0
      have z0 := H2.out.dl.frozen 0
      have hlh := H2.out.dl.lt
      obtain ⟨w3, hw3⟩ : ∃ y, w2.setCell ⟨h, 0, none⟩ (.int .u8 2) = y := ⟨_, rfl⟩
      have H3 : Hid (WSt b h W0 w3 lt ⟨2, 0, 0, 0, 0, false, 0, 0, 0, 0, false, 0⟩) := Lib.hid (by rw [← hw3]; exact H2.out.set hne 0 _ rfl)
      have Sw3 := Lib.hid hw3
      clear hw3
      go_wp2_with (rw [Sw3.out])
      go_meet
      case rel =>
        have e : t1 = 2 ∧ l1 = lt := by have := HP1.out; simp at this; exact ⟨this.1.symm, this.2.symm⟩
        rw [e.1, e.2]
        exact H3.out
    case false =>
      go_wp2_with fail
      refine (take_p b l 110 w2 H2.out.rd).mono ?_
      rintro e w4 ⟨rfl, hr1, ho1⟩
      rw [Nv2.out]
      rw [takeC, Nv2.out, Nlt.out] at hr1
      have H4 := Lib.hid (H2.out.read hne hr1 ho1)
      clear hr1 ho1
      cases v2
      case true =>
        have d0 := H4.out.dl.cell 0
        simp only [delE, List.getElem?_cons_succ, List.getElem?_cons_zero] at d0
        have z0 := H4.out.dl.frozen 0
        have hlh := H4.out.dl.lt
        obtain ⟨w5, hw5⟩ : ∃ y, w4.setCell ⟨h, 0, none⟩ (.int .u8 3) = y := ⟨_, rfl⟩
        have H5 : Hid (WSt b h W0 w5 lt ⟨3, 0, 0, 0, 0, false, 0, 0, 0, 0, false, 0⟩) := Lib.hid (by rw [← hw5]; exact H4.out.set hne 0 _ rfl)
        have Sw5 := Lib.hid hw5
        clear hw5
        go_wp2_with (rw [Sw5.out])
        go_meet
        case rel =>
          have e : t1 = 3 ∧ l1 = lt := by have := HP1.out; simp at this; exact ⟨this.1.symm, this.2.symm⟩
          rw [e.1, e.2]
          exact H5.out
      case false =>
        go_wp2_with fail
        go_meet
        case rel =>
          have e : t1 = 1 ∧ l1 = l := by have := HP1.out; simp at this; exact ⟨this.1.symm, this.2.symm⟩
          rw [e.1, e.2]
          exact H4.out
  case rest =>
  have H6 := Lib.hid hcut
  clear hcut H1 H2
  obtain ⟨s1, hs1⟩ : ∃ y, (p2 t1 l1).1 = y := ⟨_, rfl⟩
  have Ns1 := Lib.hid hs1
  clear hs1
  obtain ⟨l2, hl2⟩ : ∃ y, (p2 t1 l1).2 = y := ⟨_, rfl⟩
  have Nl2 := Lib.hid hl2
  clear hl2
  have d0 := H6.out.dl.cell 0
  simp only [delE, List.getElem?_cons_zero] at d0
  go_wp2_with fail
  clear d0
  refine (rsrc_p b t1 l1 wc H6.out.rd).mono ?_
  rintro e w7 ⟨rfl, hr1, ho1⟩
  rw [Ns1.out]
  rw [Nl2.out] at hr1
  have H7 := Lib.hid (H6.out.read hne hr1 ho1)
  clear hr1 ho1
  have d1 := H7.out.dl.cell 1
  simp only [delE, List.getElem?_cons_succ, List.getElem?_cons_zero] at d1
  have z1 := H7.out.dl.frozen 1
  have hlh := H7.out.dl.lt
  obtain ⟨w8, hw8⟩ : ∃ y, w7.setCell ⟨h, 1, none⟩ (.int .u8 s1) = y := ⟨_, rfl⟩
  have H8 : Hid (WSt b h W0 w8 l2 ⟨t1, s1, 0, 0, 0, false, 0, 0, 0, 0, false, 0⟩) := Lib.hid (by rw [← hw8]; exact H7.out.set hne 1 _ rfl)
  have Sw8 := Lib.hid hw8
  clear hw8
  go_wp2_with (rw [Sw8.out])
  clear d1 z1 hlh H6 H7 Sw8
  obtain ⟨n, hn⟩ : ∃ y, (rdD l2).1 = y := ⟨_, rfl⟩
  have Nn := Lib.hid hn
  clear hn
  obtain ⟨l3, hl3⟩ : ∃ y, (rdD l2).2 = y := ⟨_, rfl⟩
  have Nl3 := Lib.hid hl3
  clear hl3
  refine (rdig_p b l2 w8 H8.out.rd).mono ?_
  rintro e w9 ⟨rfl, hr1, ho1⟩
  rw [Nn.out]
  rw [Nl3.out] at hr1
  have H9 := Lib.hid (H8.out.read hne hr1 ho1)
  clear hr1 ho1
  have d2 := H9.out.dl.cell 2
  simp only [delE, List.getElem?_cons_succ, List.getElem?_cons_zero] at d2
  have z2 := H9.out.dl.frozen 2
  have hlh := H9.out.dl.lt
  obtain ⟨w10, hw10⟩ : ∃ y, w9.setCell ⟨h, 2, none⟩ (.int .i64 n) = y := ⟨_, rfl⟩
  have H10 : Hid (WSt b h W0 w10 l3 ⟨t1, s1, n, 0, 0, false, 0, 0, 0, 0, false, 0⟩) := Lib.hid (by rw [← hw10]; exact H9.out.set hne 2 _ rfl)
  have Sw10 := Lib.hid hw10
  clear hw10
  go_wp2_with (rw [Sw10.out])
  clear d2 z2 hlh H8 H9 Sw10
  obtain ⟨bd, hbd⟩ : ∃ y, (p4 l3).1 = y := ⟨_, rfl⟩
  have Nbd := Lib.hid hbd
  clear hbd
  obtain ⟨l4, hl4⟩ : ∃ y, (p4 l3).2 = y := ⟨_, rfl⟩
  have Nl4 := Lib.hid hl4
  clear hl4
  obtain ⟨v3, hv3⟩ : ∃ y, hasC l3 70 = y := ⟨_, rfl⟩
  have Nv3 := Lib.hid hv3
  clear hv3
  obtain ⟨v4, hv4⟩ : ∃ y, hasC l3 83 = y := ⟨_, rfl⟩
  have Nv4 := Lib.hid hv4
  clear hv4
  obtain ⟨l3t, hl3t⟩ : ∃ y, l3.tail = y := ⟨_, rfl⟩
  have Nl3t := Lib.hid hl3t
  clear hl3t
  have HP4 := Lib.hid (show (if v3 = true then ((4 : Int), l3t) else if v4 = true then (6, l3t) else (0, l3)) = (bd, l4) by rw [← Nbd.out, ← Nl4.out, ← Nv3.out, ← Nv4.out, ← Nl3t.out]; rfl)
  refine (take_p b l3 70 w10 H10.out.rd).mono ?_
  rintro e w11 ⟨rfl, hr1, ho1⟩
  rw [Nv3.out]
  rw [takeC, Nv3.out, Nl3t.out] at hr1
  have H11 := Lib.hid (H10.out.read hne hr1 ho1)
  clear hr1 ho1
  go_upto_if 27 with fail
  go_cut [] (fun wx => WSt b h W0 wx l4 ⟨t1, s1, n, 0, bd, false, 0, 0, 0, 0, false, 0⟩)
  case first =>
    cases v3
    case true =>
      have d4 := H11.out.dl.cell 4
      simp only [delE, List.getElem?_cons_succ, List.getElem?_cons_zero] at d4
      have z4 := H11.out.dl.frozen 4
      have hlh := H11.out.dl.lt
      obtain ⟨w12, hw12⟩ : ∃ y, w11.setCell ⟨h, 4, none⟩ (.int .i64 4) = y := ⟨_, rfl⟩
      have H12 : Hid (WSt b h W0 w12 l3t ⟨t1, s1, n, 0, 4, false, 0, 0, 0, 0, false, 0⟩) := Lib.hid (by rw [← hw12]; exact H11.out.set hne 4 _ rfl)
      have Sw12 := Lib.hid hw12
      clear hw12
      go_wp2_with (rw [Sw12.out])
      go_meet
      case rel =>
        have e : bd = 4 ∧ l4 = l3t := by have := HP4.out; simp at this; exact ⟨this.1.symm, this.2.symm⟩
        rw [e.1, e.2]
        exact H12.out
    case false =>
      go_wp2_with fail
      refine (take_p b l3 83 w11 H11.out.rd).mono ?_
      rintro e w13 ⟨rfl, hr1, ho1⟩
      rw [Nv4.out]
      rw [takeC, Nv4.out, Nl3t.out] at hr1
      have H13 := Lib.hid (H11.out.read hne hr1 ho1)
      clear hr1 ho1
      cases v4
      case true =>
        have d4 := H13.out.dl.cell 4
        simp only [delE, List.getElem?_cons_succ, List.getElem?_cons_zero] at d4
        have z4 := H13.out.dl.frozen 4
        have hlh := H13.out.dl.lt
        obtain ⟨w14, hw14⟩ : ∃ y, w13.setCell ⟨h, 4, none⟩ (.int .i64 6) = y := ⟨_, rfl⟩
        have H14 : Hid (WSt b h W0 w14 l3t ⟨t1, s1, n, 0, 6, false, 0, 0, 0, 0, false, 0⟩) := Lib.hid (by rw [← hw14]; exact H13.out.set hne 4 _ rfl)
        have Sw14 := Lib.hid hw14
        clear hw14
        go_wp2_with (rw [Sw14.out])
        go_meet
        case rel =>
          have e : bd = 6 ∧ l4 = l3t := by have := HP4.out; simp at this; exact ⟨this.1.symm, this.2.symm⟩
          rw [e.1, e.2]
          exact H14.out
      case false =>
        go_wp2_with fail
        go_meet
        case rel =>
          have e : bd = 0 ∧ l4 = l3 := by have := HP4.out; simp at this; exact ⟨this.1.symm, this.2.symm⟩
          rw [e.1, e.2]
          exact H13.out
  case rest =>
  have H15 := Lib.hid hcut
  clear hcut H10 H11
  obtain ⟨sh, hsh⟩ : ∃ y, (p5 l4).1 = y := ⟨_, rfl⟩
  have Nsh := Lib.hid hsh
  clear hsh
  obtain ⟨l5, hl5⟩ : ∃ y, (p5 l4).2 = y := ⟨_, rfl⟩
  have Nl5 := Lib.hid hl5
  clear hl5
  obtain ⟨v5, hv5⟩ : ∃ y, hasC l4 45 = y := ⟨_, rfl⟩
  have Nv5 := Lib.hid hv5
  clear hv5
  obtain ⟨l4t, hl4t⟩ : ∃ y, l4.tail = y := ⟨_, rfl⟩
  have Nl4t := Lib.hid hl4t
  clear hl4t
  have HP5 := Lib.hid (show (if v5 = true then rdD l4t else (0, l4)) = (sh, l5) by rw [← Nsh.out, ← Nl5.out, ← Nv5.out, ← Nl4t.out]; rfl)
  go_wp2_with (fail)
  refine (take_p b l4 45 wc H15.out.rd).mono ?_
  rintro e w16 ⟨rfl, hr1, ho1⟩
  rw [Nv5.out]
  rw [takeC, Nv5.out, Nl4t.out] at hr1
  have H16 := Lib.hid (H15.out.read hne hr1 ho1)
  clear hr1 ho1
  go_upto_if 33 with fail
  go_cut [] (fun wx => WSt b h W0 wx l5 ⟨t1, s1, n, sh, bd, false, 0, 0, 0, 0, false, 0⟩)
  case first =>
    cases v5
    case true =>
      have e : (rdD l4t).1 = sh ∧ (rdD l4t).2 = l5 := by have := HP5.out; rw [if_pos rfl] at this; rw [this]; exact ⟨rfl, rfl⟩
      obtain ⟨e1, e2⟩ := e
      have E1 := Lib.hid e1
      have E2 := Lib.hid e2
      clear e1 e2
      go_wp2_with fail
      refine (rdig_p b l4t w16 H16.out.rd).mono ?_
      rintro e w17 ⟨rfl, hr1, ho1⟩
      rw [E1.out]
      rw [E2.out] at hr1
      have H17 := Lib.hid (H16.out.read hne hr1 ho1)
      clear hr1 ho1
      have d3 := H17.out.dl.cell 3
      simp only [delE, List.getElem?_cons_succ, List.getElem?_cons_zero] at d3
      have z3 := H17.out.dl.frozen 3
      have hlh := H17.out.dl.lt
      obtain ⟨w18, hw18⟩ : ∃ y, w17.setCell ⟨h, 3, none⟩ (.int .i64 sh) = y := ⟨_, rfl⟩
      have H18 : Hid (WSt b h W0 w18 l5 ⟨t1, s1, n, sh, bd, false, 0, 0, 0, 0, false, 0⟩) := Lib.hid (by rw [← hw18]; exact H17.out.set hne 3 _ rfl)
      have Sw18 := Lib.hid hw18
      clear hw18
      go_wp2_with (rw [Sw18.out])
      go_meet
      case rel => exact H18.out
    case false =>
      go_wp2_with fail
      go_meet
      case rel =>
        have e : sh = 0 ∧ l5 = l4 := by have := HP5.out; simp at this; exact ⟨this.1.symm, this.2.symm⟩
        rw [e.1, e.2]
        exact H16.out
  case rest =>
  have H19 := Lib.hid hcut
  clear hcut H15 H16
  obtain ⟨cr, hcr⟩ : ∃ y, hasC l5 120 = y := ⟨_, rfl⟩
  have Ncr := Lib.hid hcr
  clear hcr
  obtain ⟨l6, hl6⟩ : ∃ y, takeC l5 120 = y := ⟨_, rfl⟩
  have Nl6 := Lib.hid hl6
  clear hl6
  go_wp2_with (fail)
  refine (take_p b l5 120 wc H19.out.rd).mono ?_
  rintro e w20 ⟨rfl, hr1, ho1⟩
  rw [Ncr.out]
  rw [Nl6.out] at hr1
  have H20 := Lib.hid (H19.out.read hne hr1 ho1)
  clear hr1 ho1
  have d5 := H20.out.dl.cell 5
  simp only [delE, List.getElem?_cons_succ, List.getElem?_cons_zero] at d5
  have z5 := H20.out.dl.frozen 5
  have hlh := H20.out.dl.lt
  obtain ⟨w21, hw21⟩ : ∃ y, w20.setCell ⟨h, 5, none⟩ (.bool cr) = y := ⟨_, rfl⟩
  have H21 : Hid (WSt b h W0 w21 l6 ⟨t1, s1, n, sh, bd, cr, 0, 0, 0, 0, false, 0⟩) := Lib.hid (by rw [← hw21]; exact H20.out.set hne 5 _ rfl)
  have Sw21 := Lib.hid hw21
  clear hw21
  go_wp2_with (rw [Sw21.out])
  clear d5 z5 hlh H19 H20 Sw21
  obtain ⟨K, hK⟩ : ∃ K, p7 l6 = K := ⟨_, rfl⟩
  have NK := Lib.hid hK
  clear hK
  refine (rwicket_p b h hne l6 t1 s1 n sh bd cr 0 w21 ⟨H21.out.rd, H21.out.dl, Oth2.refl b h _⟩).mono ?_
  rintro e w22 ⟨rfl, hr1⟩
  rw [NK.out] at hr1
  have H22 := Lib.hid (show WSt b h W0 w22 K.2 ⟨t1, s1, n, sh, bd, cr, K.1.how, K.1.vic, K.1.fd, K.1.sd, K.1.sub, 0⟩ from ⟨hr1.rd, hr1.dl, ⟨hr1.ot.os.trans H21.out.ot.os, hr1.ot.tape.trans H21.out.ot.tape, hr1.ot.output.trans H21.out.ot.output, Nat.le_trans H21.out.ot.size hr1.ot.size, fun k hk h1 h2 => (hr1.ot.block k (Nat.lt_of_lt_of_le hk H21.out.ot.size) h1 h2).trans (H21.out.ot.block k hk h1 h2)⟩⟩)
  clear hr1
  obtain ⟨K1, l7⟩ := K
  obtain ⟨how, vic, fd, sd, sub⟩ := K1
  dsimp only at H22
  go_wp2_with (fail)
  obtain ⟨sec, hsec⟩ : ∃ y, p8 l7 = y := ⟨_, rfl⟩
  have Nsec := Lib.hid hsec
  clear hsec
  obtain ⟨v8, hv8⟩ : ∃ y, hasC l7 64 = y := ⟨_, rfl⟩
  have Nv8 := Lib.hid hv8
  clear hv8
  obtain ⟨l7t, hl7t⟩ : ∃ y, l7.tail = y := ⟨_, rfl⟩
  have Nl7t := Lib.hid hl7t
  clear hl7t
  have HP8 := Lib.hid (show (if v8 = true then (rdD l7t).1 else 0) = sec by rw [← Nsec.out, ← Nv8.out, ← Nl7t.out]; rfl)
  refine (take_p b l7 64 w22 H22.out.rd).mono ?_
  rintro e w23 ⟨rfl, hr1, ho1⟩
  rw [Nv8.out]
  rw [takeC, Nv8.out, Nl7t.out] at hr1
  have H23 := Lib.hid (H22.out.read hne hr1 ho1)
  clear hr1 ho1
  go_upto_if 43 with fail
  go_cut [] (fun wx => Blk wx h 27 (delE ⟨t1, s1, n, sh, bd, cr, how, vic, fd, sd, sub, sec⟩) ∧ Oth2 b h W0 wx)
  case first =>
    cases v8
    case true =>
      have E1 : Hid ((rdD l7t).1 = sec) := Lib.hid (by have := HP8.out; rw [if_pos rfl] at this; exact this)
      go_wp2_with fail
      refine (rdig_p b l7t w23 H23.out.rd).mono ?_
      rintro e w24 ⟨rfl, hr1, ho1⟩
      rw [E1.out]
      have H24 := Lib.hid (H23.out.read hne hr1 ho1)
      clear hr1 ho1
      have d11 := H24.out.dl.cell 11
      simp only [delE, List.getElem?_cons_succ, List.getElem?_cons_zero] at d11
      have z11 := H24.out.dl.frozen 11
      have hlh := H24.out.dl.lt
      obtain ⟨w25, hw25⟩ : ∃ y, w24.setCell ⟨h, 11, none⟩ (.int .i64 sec) = y := ⟨_, rfl⟩
      have H25 : Hid (WSt b h W0 w25 (rdD l7t).2 ⟨t1, s1, n, sh, bd, cr, how, vic, fd, sd, sub, sec⟩) := Lib.hid (by rw [← hw25]; exact H24.out.set hne 11 _ rfl)
      have Sw25 := Lib.hid hw25
      clear hw25
      go_wp2_with (rw [Sw25.out])
      go_meet
      case rel => exact ⟨H25.out.dl, H25.out.ot⟩
    case false =>
      go_wp2_with fail
      go_meet
      case rel =>
        have e : sec = 0 := by have := HP8.out; simp at this; exact this.symm
        rw [e]
        exact ⟨H23.out.dl, H23.out.ot⟩
  case rest =>
  obtain ⟨hdl, hot⟩ := hcut
  clear H22 H23
  have hGe : G = ⟨t1, s1, n, sh, bd, cr, how, vic, fd, sd, sub, sec⟩ := by
    rw [← HGG.out]
    unfold guessP
    dsimp only
    rw [Nt1.out, Nl1.out, Ns1.out, Nl2.out, Nn.out, Nl3.out, Nbd.out, Nl4.out, Nsh.out, Nl5.out, Ncr.out, Nl6.out, NK.out]
    dsimp only
    rw [Nsec.out]
  rw [← hGe] at hdl
  have HGE := Lib.hid hGe
  clear hGe
  have hbw : Below w.heap.size w wc := hot.below HWB.out (by omega) (by have := HH.out; omega) HWB.out.size
  have hzz : Blk wc w.heap.size 27 (delE zeroD) := hot.blk HZ.out (by omega) (by have := HH.out; omega)
  have HLW := Lib.hid (HL.out.to hbw)
  have HDL := Lib.hid hdl
  have HZZ := Lib.hid hzz
  have HBW := Lib.hid hbw
  clear hdl hot hbw hzz HGE
  go_wp2_with (refine wpList_loadC rfl _ 27 rfl h 27 (delE G) _ rfl (by rfl) (by rfl) (by rfl) HDL.out ?_)
  by_cases hc : chkD G = 0
  · have HC := Lib.hid hc
    clear hc
    obtain ⟨tS, htS⟩ : ∃ y, sA (prtD G) = y := ⟨_, rfl⟩
    have NtS := Lib.hid htS
    clear htS
    refine (print_p G HC.out HG.out.1 wc HLW.out).mono ?_
    rintro e w26 ⟨rfl, hb26⟩
    rw [NtS.out]
    have HDL2 := Lib.hid (HDL.out.to hb26)
    have HZZ2 := Lib.hid (HZZ.out.to hb26)
    have HBW2 := Lib.hid (cur_step1 HBW.out hb26)
    clear hb26
    by_cases hp : prtD G = l
    · have g1 : (tS.toList == sl.toList) = true := by rw [← NtS.out, ← HSL.out, hp]; simp
      have HP := Lib.hid (show parD G l = (G, 0) by unfold parD; rw [if_pos ⟨HC.out, hp⟩])
      clear hp
      go_wp2_with (first | (refine wpList_loadC rfl _ 27 rfl h 27 (delE G) _ rfl (by rfl) (by rfl) (by rfl) HDL2.out ?_) | (refine wpList_storeC rfl _ _ 27 rfl w.heap.size 27 (delE zeroD) (delE G).toArray api_info (by rfl) (by rfl) HZZ2.out rfl (api_one _) ?_))
      refine ret_cell2 (g := w.heap.size) (e := 27) (xs := (delE G).toArray.toList) rfl (by rfl) (by rfl) (blk_row HZZ2.out _) rfl (by rfl) (by rfl) rfl ?_
      rw [HP.out]
      exact ⟨rfl, row_below HBW2.out (Nat.le_refl _) _⟩
    · have g1 : (tS.toList == sl.toList) = false := by
        rw [← NtS.out, ← HSL.out]
        simp only [beq_eq_false_iff_ne, ne_eq]
        intro he
        apply hp
        rw [sA_to, sA_to] at he
        exact he
      have HP := Lib.hid (show parD G l = (zeroD, 4) by unfold parD; rw [if_neg (fun q => hp q.2)])
      clear hp
      go_wp2_with (first | (refine wpList_loadC rfl _ 27 rfl h 27 (delE G) _ rfl (by rfl) (by rfl) (by rfl) HDL2.out ?_) | (refine wpList_storeC rfl _ _ 27 rfl w.heap.size 27 (delE zeroD) (delE zeroD).toArray api_info (by rfl) (by rfl) HZZ2.out rfl (api_one _) ?_))
      refine ret_cell2 (g := w.heap.size) (e := 27) (xs := (delE zeroD).toArray.toList) rfl (by rfl) (by rfl) (blk_row HZZ2.out _) rfl (by rfl) (by rfl) rfl ?_
      rw [HP.out]
      exact ⟨rfl, row_below HBW2.out (Nat.le_refl _) _⟩
  · obtain ⟨v, hv⟩ : ∃ v, chkD G = v := ⟨_, rfl⟩
    have g1 : (v != 0) = true := by rw [← hv]; simpa using hc
    have HP := Lib.hid (show parD G l = (zeroD, 4) by unfold parD; rw [if_neg (fun q => hc q.1)])
    have HV := Lib.hid hv
    have HV0 := Lib.hid (show v ≠ 0 by rw [← hv]; exact hc)
    clear hc hv
    refine (print_e G v HV.out HV0.out wc).mono ?_
    rintro e w26 ⟨rfl, hb26⟩
    have HDL2 := Lib.hid (HDL.out.to hb26)
    have HZZ2 := Lib.hid (HZZ.out.to hb26)
    have HBW2 := Lib.hid (cur_step1 HBW.out hb26)
    clear hb26
    go_wp2_with (first | (refine wpList_storeC rfl _ _ 27 rfl w.heap.size 27 (delE zeroD) (delE zeroD).toArray api_info (by rfl) (by rfl) HZZ2.out rfl (api_one _) ?_))
    refine ret_cell2 (g := w.heap.size) (e := 27) (xs := (delE zeroD).toArray.toList) rfl (by rfl) (by rfl) (blk_row HZZ2.out _) rfl (by rfl) (by rfl) rfl ?_
    rw [HP.out]
    exact ⟨rfl, row_below HBW2.out (Nat.le_refl _) _⟩
end
end Go.Proofs.YtgkjcapoddjkhaaGreatDoor
