/-
  scorebookref03.Number.
-/
import Derived.Test.YtdbiihfoafoljaaGreatDoorPadE
set_option linter.unusedSimpArgs false
set_option linter.unusedVariables false
namespace Go.Proofs.YtdbiihfoafoljaaGreatDoor
open Go.RowKit
set_option maxRecDepth 100000
set_option maxHeartbeats 1000000

theorem byte_at {D : ByteArray} {k : Nat} (h : k < D.size) : D.data.toList[k]? = some D[k] := by
  rw [List.getElem?_eq_getElem (by simpa using h)]
  rfl
theorem take_succ {l : List UInt8} {k : Nat} {c : UInt8} (h : l[k]? = some c) : l.take (k + 1) = l.take k ++ [c] := by
  rw [List.take_add_one, h]; rfl
def NumR (w : World) (D : ByteArray) (n big i : Value) (wr : World) : Prop := ∃ (k : Nat) (nn : Int) (bb : Bool), k ≤ D.size ∧ i = .int .i64 k ∧ n = .int .u64 nn ∧ big = .bool bb ∧ 0 ≤ nn ∧ nn ≤ 18446744073709551615 ∧
  (D.data.toList.take k).all digB = true ∧ (D.data.toList.take k).foldl refStep (0, false) = (nn, bb) ∧ wr = w
theorem ref_step_eq (nn : Int) (bb : Bool) (c : UInt8) : refStep (nn, bb) c = ((nn * 10 + ((c.toNat : Int) - 48)) % 18446744073709551616, bb || decide (1152921504606846976 < nn)) := rfl
theorem num_next {D : ByteArray} {k : Nat} {nn : Int} {bb : Bool} {c : UInt8} (hc : D.data.toList[k]? = some c) (hd : digB c = true) (h1 : (D.data.toList.take k).all digB = true) (h2 : (D.data.toList.take k).foldl refStep (0, false) = (nn, bb)) :
    (D.data.toList.take (k + 1)).all digB = true ∧ (D.data.toList.take (k + 1)).foldl refStep (0, false) = ((nn * 10 + ((c.toNat : Int) - 48)) % 18446744073709551616, bb || decide (1152921504606846976 < nn)) := by
  rw [take_succ hc, List.all_append, h1, List.foldl_append, h2]
  refine ⟨by rw [List.all_cons, hd]; rfl, rfl⟩
theorem num_bad {l : List UInt8} {k : Nat} {c : UInt8} (hc : l[k]? = some c) (hd : digB c = false) : l.all digB = false := by
  rw [Bool.eq_false_iff]
  intro h
  have := List.all_eq_true.1 h c (List.mem_of_getElem? hc)
  rw [hd] at this
  cases this
theorem num_end {D : ByteArray} {nn : Int} {bb : Bool} (h1 : (D.data.toList.take D.size).all digB = true) (h2 : (D.data.toList.take D.size).foldl refStep (0, false) = (nn, bb)) :
    D.data.toList.all digB = true ∧ (bb = false → nn = natD 0 D.data.toList ∧ natD 0 D.data.toList ≤ 11529215046068469769) ∧ (bb = true → 9223372036854775808 < natD 0 D.data.toList) := by
  have e : D.data.toList.take D.size = D.data.toList := List.take_of_length_le (by simp)
  rw [e] at h1 h2
  have := refLoop D.data.toList 0 0 false h1 (fun _ => ⟨rfl, by omega⟩) (fun h => by cases h)
  rw [h2] at this
  exact ⟨h1, this⟩
theorem wrap_step (nn : Int) (c : Nat) : IntKind.u64.wrap (IntKind.u64.wrap (nn * 10) + ((c : Int) - 48)) = (nn * 10 + ((c : Int) - 48)) % 18446744073709551616 := by
  rw [IntKind.wrap_u64, IntKind.wrap_u64]
  omega
theorem number_r (s : ByteArray) (hs : s.size ≤ 281474976710656) (lo hi : Int) (hlo : -9223372036854775808 ≤ lo) (hhi : hi ≤ 9223372036854775807) (w : World) :
    Calls Tryz.prog 33 #[.string s, .int .i64 lo, .int .i64 hi] w fun e w' => e = .returned (.tuple #[.int .i64 (numP s.data.toList lo hi).1, .int .i64 (numP s.data.toList lo hi).2]) ∧ Below w.heap.size w w' := by
  obtain ⟨x, y, hv⟩ : ∃ x y, numP s.data.toList lo hi = (x, y) := ⟨_, _, rfl⟩
  rw [hv]
  obtain ⟨V, hV⟩ : ∃ V, valD s.data.toList = V := ⟨_, rfl⟩
  have hof : (if numOk s.data.toList then (if V < lo ∨ hi < V then (0, 2) else (V, 0)) else (0, 4)) = (x, y) := by rw [← hV]; exact hv
  have HOF := Lib.hid hof
  have HVV := Lib.hid hV
  clear hv hof hV
  by_cases hE : s.toList = []
  · have hno : numOk s.data.toList = false := by rw [bytes_list] at hE; rw [hE]; rfl
    have HN := Lib.hid hno
    clear hno
    go_enter Tryz.func33, Tryz.ntmps33
    go_wp2_with (fail)
    go_ret2
    have ho := HOF.out
    rw [HN.out] at ho
    exact ⟨ret_two (congrArg Prod.fst ho) (congrArg Prod.snd ho), Below.refl _ _⟩
  have h0 : 0 < s.size := by
    rcases Nat.eq_zero_or_pos s.size with h | h
    · exact absurd (by rw [bytes_list]; exact List.eq_nil_of_length_eq_zero (by simpa using h)) hE
    · exact h
  have hI : s.toList.isEmpty = false := by rw [Bool.eq_false_iff]; intro h; exact hE (List.isEmpty_iff.1 h)
  have hhd : s.data.toList.head? = some s[0] := by have := head_at (D := s) rfl h0; rwa [bytes_list] at this
  clear hE
  by_cases hg : (s[0].toNat : Int) = 45
  · have hgt : ((s[0].toNat : Int) == 45) = true := by simpa using hg
    have h45 : s[0] = 45 := by
      apply UInt8.toNat_inj.1
      have : s[0].toNat = 45 := by omega
      rw [this]; rfl
    have hb : bodyL s.data.toList = s.data.toList.tail := by unfold bodyL; rw [hhd, h45]; rfl
    have hdt : (s.extract 1 s.size).data.toList = s.data.toList.tail := by
      rw [ByteArray.data_extract, Array.toList_extract]
      simp [List.extract, List.take_of_length_le]
    have hval : valD s.data.toList = -(natD 0 (s.extract 1 s.size).data.toList : Int) := by unfold valD; rw [hhd, h45, hb, hdt]; rfl
    have hsz : (s.extract 1 s.size).size = s.size - 1 := by simp
    have hne8 : (s.data.toList == [48]) = false := by
      rw [beq_eq_false_iff_ne]; intro h
      rw [h, h45] at hhd
      exact absurd hhd (by decide)
    have hok : numOk s.data.toList = (!(s.extract 1 s.size).toList.isEmpty && !((s.extract 1 s.size).data.toList.head? == some 48) && (s.extract 1 s.size).data.toList.all digB) := by
      unfold numOk; rw [hb, bytes_list, hdt, hne8]; simp
    have HVAL := Lib.hid (hval.symm.trans HVV.out)
    have HOK := Lib.hid hok
    clear hval hok hb hhd hg h45 hdt hne8
    by_cases hE : (s.extract 1 s.size).toList = []
    · have hno : numOk s.data.toList = false := by rw [HOK.out, hE]; rfl
      have HN := Lib.hid hno
      clear hno hsz
      go_enter Tryz.func33, Tryz.ntmps33
      go_wp2_with (fail)
      go_ret2
      have ho := HOF.out
      rw [HN.out] at ho
      exact ⟨ret_two (congrArg Prod.fst ho) (congrArg Prod.snd ho), Below.refl _ _⟩
    have hI2 : (s.extract 1 s.size).toList.isEmpty = false := by rw [Bool.eq_false_iff]; intro h; exact hE (List.isEmpty_iff.1 h)
    have h02 : 0 < (s.extract 1 s.size).size := by
      rcases Nat.eq_zero_or_pos (s.extract 1 s.size).size with h | h
      · exact absurd (by rw [bytes_list]; exact List.eq_nil_of_length_eq_zero (by simpa using h)) hE
      · exact h
    have h03 : 0 < s.size - 1 := by omega
    have hH2 := head_at (D := s.extract 1 s.size) rfl h02
    rw [bytes_list] at hH2
    by_cases hz : ((s.extract 1 s.size)[0].toNat : Int) = 48
    · have hno : numOk s.data.toList = false := by rw [HOK.out, hH2, byte_ext hz]; simp
      have HN := Lib.hid hno
      clear hno hE hH2
      go_enter Tryz.func33, Tryz.ntmps33
      go_wp2_with (fail)
      go_ret2
      have ho := HOF.out
      rw [HN.out] at ho
      exact ⟨ret_two (congrArg Prod.fst ho) (congrArg Prod.snd ho), Below.refl _ _⟩
    have hzf : (((s.extract 1 s.size)[0].toNat : Int) == 48) = false := by simpa using hz
    have hok2 : numOk s.data.toList = (s.extract 1 s.size).data.toList.all digB := by
      rw [HOK.out, hI2, hH2]
      have : ¬ (s.extract 1 s.size)[0] = 48 := fun e => by rw [e] at hz; exact hz rfl
      simp [this]
    have HOK2 := Lib.hid hok2
    clear hok2 hz hE hH2 HOK
    go_enter Tryz.func33, Tryz.ntmps33
    go_wp2_with (fail)
    clear hzf hI2
    generalize ((s.extract 1 s.size)[0].toNat : Int) = z0
    clear h02 hsz h03
    have hD0 : (s.extract 1 s.size).size ≤ 281474976710656 := by simp; omega
    generalize s.extract 1 s.size = D at *
    go_loopw [10, 11, 12] (NumR w D) (fun _ _ i _ => D.size - (intOf i).toNat)
    case atStart => exact ⟨0, 0, false, by omega, rfl, rfl, rfl, by omega, by omega, rfl, rfl, rfl⟩
    case round =>
      obtain ⟨k, nn, bb, hk, rfl, rfl, rfl, hn0, hn1, hall, hfold, rfl⟩ := hrel
      have HALL := Lib.hid hall
      have HFOLD := Lib.hid hfold
      clear hall hfold
      by_cases hlt : k < D.size
      · have hat := byte_at hlt
        have HAT := Lib.hid hat
        clear hat
        by_cases hdig : 48 ≤ D[k].toNat ∧ D[k].toNat ≤ 57
        · obtain ⟨hd1, hd2⟩ := hdig
          have hdb : digB D[k] = true := by unfold digB; simp [hd1, hd2]
          have HNX := Lib.hid (num_next HAT.out hdb HALL.out HFOLD.out)
          have hws := wrap_step nn D[k].toNat
          have HWS := Lib.hid hws
          have hm0 := Int.emod_nonneg (nn * 10 + ((D[k].toNat : Int) - 48)) (show (18446744073709551616 : Int) ≠ 0 by omega)
          have hm1 := Int.emod_lt_of_pos (nn * 10 + ((D[k].toNat : Int) - 48)) (show (0 : Int) < 18446744073709551616 by omega)
          have HM0 := Lib.hid hm0
          have HM1 := Lib.hid hm1
          clear hws hdb hm0 hm1
          by_cases hbig : 1152921504606846976 < nn
          · have HB2 := Lib.hid (show Value.bool true = Value.bool (bb || decide (1152921504606846976 < nn)) by rw [decide_eq_true hbig, Bool.or_true])
            go_wp2_with (fail)
            refine ⟨⟨k + 1, _, _, by omega, by simp <;> omega, by first | rw [HWS.out] | exact congrArg _ (Int.emod_eq_of_lt (by omega) (by omega)).symm, HB2.out, HM0.out, by have := HM1.out; omega, HNX.out.1, HNX.out.2, rfl⟩, by simp only [intOf]; omega⟩
          · have HB2 := Lib.hid (show Value.bool bb = Value.bool (bb || decide (1152921504606846976 < nn)) by rw [decide_eq_false hbig, Bool.or_false])
            go_wp2_with (fail)
            refine ⟨⟨k + 1, _, _, by omega, by simp <;> omega, by first | rw [HWS.out] | exact congrArg _ (Int.emod_eq_of_lt (by omega) (by omega)).symm, HB2.out, HM0.out, by have := HM1.out; omega, HNX.out.1, HNX.out.2, rfl⟩, by simp only [intOf]; omega⟩
        · have hdb : digB D[k] = false := by unfold digB; simp; omega
          have HBAD := Lib.hid (num_bad HAT.out hdb)
          clear hdb
          go_wp2_with (fail)
          all_goals first
            | (go_ret2
               have ho := HOF.out
               rw [HOK2.out, HBAD.out] at ho
               exact ⟨ret_two (congrArg Prod.fst ho) (congrArg Prod.snd ho), Below.refl _ _⟩)
            | (exfalso; omega)
      · obtain rfl : k = D.size := by omega
        obtain ⟨g1, g2, g3⟩ := num_end HALL.out HFOLD.out
        have ho := HOF.out
        rw [HOK2.out, g1, if_pos rfl] at ho
        have hval := HVAL.out
        clear HVAL HVV HOF
        generalize natD 0 D.data.toList = N at g2 g3 hval
        subst hval
        cases bb with
        | true =>
          have g4 := g3 rfl
          rw [if_pos (by omega)] at ho
          have HO := Lib.hid ho
          clear ho g1 g2 g3
          go_wp2_with (fail)
          go_ret2
          exact ⟨ret_two (congrArg Prod.fst HO.out) (congrArg Prod.snd HO.out), Below.refl _ _⟩
        | false =>
          obtain ⟨rfl, g5⟩ := g2 rfl
          clear g1 g2 g3
          by_cases hN : N ≤ 9223372036854775807
          · have hwr : IntKind.i64.wrap (N : Int) = N := by rw [IntKind.wrap_i64]; omega
            by_cases hq : -(N : Int) < lo ∨ hi < -(N : Int)
            · rw [if_pos hq] at ho
              have HO := Lib.hid ho
              have HQ := Lib.hid hq
              clear ho hq
              go_wp2_with (fail)
              all_goals first
                | (go_ret2; exact ⟨ret_two (congrArg Prod.fst HO.out) (congrArg Prod.snd HO.out), Below.refl _ _⟩)
                | (exfalso; have := HQ.out; omega)
            · rw [if_neg hq] at ho
              have HO := Lib.hid ho
              have hq1 : lo ≤ -(N : Int) := by omega
              have hq2 : -(N : Int) ≤ hi := by omega
              clear ho hq
              go_wp2_with (fail)
              go_ret2
              exact ⟨ret_two (congrArg Prod.fst HO.out) (congrArg Prod.snd HO.out), Below.refl _ _⟩
          · by_cases hM : N = 9223372036854775808
            · subst hM
              have hwr : wrap64 9223372036854775808 = -9223372036854775808 := by decide +kernel
              have hwr2 : wrap64 (-wrap64 9223372036854775808) = -9223372036854775808 := by decide +kernel
              by_cases hq : -((9223372036854775808 : Nat) : Int) < lo ∨ hi < -((9223372036854775808 : Nat) : Int)
              · rw [if_pos hq] at ho
                have HO := Lib.hid ho
                have HQ := Lib.hid hq
                clear ho hq
                go_wp2_with (fail)
                all_goals first
                  | (go_ret2; exact ⟨ret_two (congrArg Prod.fst HO.out) (congrArg Prod.snd HO.out), Below.refl _ _⟩)
                  | (exfalso; have := HQ.out; omega)
              · rw [if_neg hq] at ho
                have HO := Lib.hid ho
                have hq1 : lo ≤ -9223372036854775808 := by omega
                have hq2 : -9223372036854775808 ≤ hi := by omega
                clear ho hq
                go_wp2_with (fail)
                go_ret2
                exact ⟨ret_two (congrArg Prod.fst HO.out) (congrArg Prod.snd HO.out), Below.refl _ _⟩
            · rw [if_pos (by omega)] at ho
              have HO := Lib.hid ho
              clear ho
              go_wp2_with (fail)
              all_goals first
                | (go_ret2; exact ⟨ret_two (congrArg Prod.fst HO.out) (congrArg Prod.snd HO.out), Below.refl _ _⟩)
                | (exfalso; omega)

  · have hne : ¬ s[0] = 45 := fun e => by rw [e] at hg; exact hg rfl
    have hb : bodyL s.data.toList = s.data.toList := by unfold bodyL; rw [hhd, if_neg (by simpa using hne)]
    have hval : valD s.data.toList = natD 0 s.data.toList := by unfold valD; rw [hhd, if_neg (by simpa using hne), hb]
    have hok : numOk s.data.toList = (!(s[0] == 48 && !(s.data.toList == [48])) && s.data.toList.all digB) := by
      unfold numOk; rw [hb, hhd]
      rw [show s.data.toList.isEmpty = false by rw [← bytes_list]; exact hI]
      simp
    have HVAL := Lib.hid (hval.symm.trans HVV.out)
    have HOK := Lib.hid hok
    have HH := Lib.hid hhd
    clear hval hok hb hhd hne
    by_cases hz : (s[0].toNat : Int) = 48 ∧ 1 < s.size
    · obtain ⟨hz1, hz2⟩ := hz
      have hno : numOk s.data.toList = false := by
        rw [HOK.out, byte_ext hz1]
        have : (s.data.toList == [48]) = false := by
          rw [beq_eq_false_iff_ne]; intro h
          have := congrArg List.length h
          simp at this
          omega
        rw [this]; rfl
      have HN := Lib.hid hno
      clear hno
      go_enter Tryz.func33, Tryz.ntmps33
      go_wp2_with (fail)
      go_ret2
      have ho := HOF.out
      rw [HN.out] at ho
      exact ⟨ret_two (congrArg Prod.fst ho) (congrArg Prod.snd ho), Below.refl _ _⟩
    · have hok2 : numOk s.data.toList = s.data.toList.all digB := by
        rw [HOK.out]
        by_cases hz1 : (s[0].toNat : Int) = 48
        · have h1 : s.size = 1 := by omega
          have : s.data.toList = [48] := by
            have hl : s.data.toList.length = 1 := by simpa using h1
            match hh : s.data.toList, hl with
            | [c], _ =>
              have := HH.out
              rw [hh] at this
              simp only [List.head?_cons, Option.some.injEq] at this
              rw [this, byte_ext hz1]
          rw [this]; simp
        · have : ¬ s[0] = 48 := fun e => by rw [e] at hz1; exact hz1 rfl
          simp [this]
      have HOK2 := Lib.hid hok2
      have hgf : ((s[0].toNat : Int) == 45) = false := by simpa using hg
      clear hok2
      by_cases hz1 : (s[0].toNat : Int) = 48
      · have hzt : ((s[0].toNat : Int) == 48) = true := by simpa using hz1
        have hz2 : (s.size : Int) ≤ 1 := by omega
        have hz3 : decide ((1 : Int) < s.size) = false := by simp; omega
        clear hz hg HOK HH
        go_enter Tryz.func33, Tryz.ntmps33
        go_wp2_with (fail)
        go_loopw [10, 11, 12] (NumR w s) (fun _ _ i _ => s.size - (intOf i).toNat)
        case atStart => exact ⟨0, 0, false, by omega, rfl, rfl, rfl, by omega, by omega, rfl, rfl, rfl⟩
        case round =>
          obtain ⟨k, nn, bb, hk, rfl, rfl, rfl, hn0, hn1, hall, hfold, rfl⟩ := hrel
          have HALL := Lib.hid hall
          have HFOLD := Lib.hid hfold
          clear hall hfold
          by_cases hlt : k < s.size
          · have hat := byte_at hlt
            have HAT := Lib.hid hat
            clear hat
            by_cases hdig : 48 ≤ s[k].toNat ∧ s[k].toNat ≤ 57
            · obtain ⟨hd1, hd2⟩ := hdig
              have hdb : digB s[k] = true := by unfold digB; simp [hd1, hd2]
              have HNX := Lib.hid (num_next HAT.out hdb HALL.out HFOLD.out)
              have hws := wrap_step nn s[k].toNat
              have HWS := Lib.hid hws
              have hm0 := Int.emod_nonneg (nn * 10 + ((s[k].toNat : Int) - 48)) (show (18446744073709551616 : Int) ≠ 0 by omega)
              have hm1 := Int.emod_lt_of_pos (nn * 10 + ((s[k].toNat : Int) - 48)) (show (0 : Int) < 18446744073709551616 by omega)
              have HM0 := Lib.hid hm0
              have HM1 := Lib.hid hm1
              clear hws hdb hm0 hm1
              by_cases hbig : 1152921504606846976 < nn
              · have HB2 := Lib.hid (show Value.bool true = Value.bool (bb || decide (1152921504606846976 < nn)) by rw [decide_eq_true hbig, Bool.or_true])
                go_wp2_with (fail)
                refine ⟨⟨k + 1, _, _, by omega, by simp <;> omega, by first | rw [HWS.out] | exact congrArg _ (Int.emod_eq_of_lt (by omega) (by omega)).symm, HB2.out, HM0.out, by have := HM1.out; omega, HNX.out.1, HNX.out.2, rfl⟩, by simp only [intOf]; omega⟩
              · have HB2 := Lib.hid (show Value.bool bb = Value.bool (bb || decide (1152921504606846976 < nn)) by rw [decide_eq_false hbig, Bool.or_false])
                go_wp2_with (fail)
                refine ⟨⟨k + 1, _, _, by omega, by simp <;> omega, by first | rw [HWS.out] | exact congrArg _ (Int.emod_eq_of_lt (by omega) (by omega)).symm, HB2.out, HM0.out, by have := HM1.out; omega, HNX.out.1, HNX.out.2, rfl⟩, by simp only [intOf]; omega⟩
            · have hdb : digB s[k] = false := by unfold digB; simp; omega
              have HBAD := Lib.hid (num_bad HAT.out hdb)
              clear hdb
              go_wp2_with (fail)
              all_goals first
                | (go_ret2
                   have ho := HOF.out
                   rw [HOK2.out, HBAD.out] at ho
                   exact ⟨ret_two (congrArg Prod.fst ho) (congrArg Prod.snd ho), Below.refl _ _⟩)
                | (exfalso; omega)
          · obtain rfl : k = s.size := by omega
            obtain ⟨g1, g2, g3⟩ := num_end HALL.out HFOLD.out
            have ho := HOF.out
            rw [HOK2.out, g1, if_pos rfl] at ho
            have hval := HVAL.out
            clear HVAL HVV HOF
            generalize natD 0 s.data.toList = N at g2 g3 hval
            subst hval
            cases bb with
            | true =>
              have g4 := g3 rfl
              rw [if_pos (by omega)] at ho
              have HO := Lib.hid ho
              clear ho g1 g2 g3
              go_wp2_with (fail)
              go_ret2
              exact ⟨ret_two (congrArg Prod.fst HO.out) (congrArg Prod.snd HO.out), Below.refl _ _⟩
            | false =>
              obtain ⟨rfl, g5⟩ := g2 rfl
              clear g1 g2 g3
              by_cases hN : N ≤ 9223372036854775807
              · have hwr : IntKind.i64.wrap (N : Int) = N := by rw [IntKind.wrap_i64]; omega
                by_cases hq : (N : Int) < lo ∨ hi < (N : Int)
                · rw [if_pos hq] at ho
                  have HO := Lib.hid ho
                  have HQ := Lib.hid hq
                  clear ho hq
                  go_wp2_with (fail)
                  all_goals first
                    | (go_ret2; exact ⟨ret_two (congrArg Prod.fst HO.out) (congrArg Prod.snd HO.out), Below.refl _ _⟩)
                    | (exfalso; have := HQ.out; omega)
                · rw [if_neg hq] at ho
                  have HO := Lib.hid ho
                  have hq1 : lo ≤ (N : Int) := by omega
                  have hq2 : (N : Int) ≤ hi := by omega
                  clear ho hq
                  go_wp2_with (fail)
                  go_ret2
                  exact ⟨ret_two (congrArg Prod.fst HO.out) (congrArg Prod.snd HO.out), Below.refl _ _⟩
              · rw [if_pos (by omega)] at ho
                have HO := Lib.hid ho
                clear ho
                go_wp2_with (fail)
                all_goals first
                  | (go_ret2; exact ⟨ret_two (congrArg Prod.fst HO.out) (congrArg Prod.snd HO.out), Below.refl _ _⟩)
                  | (exfalso; omega)

      · have hzt : ((s[0].toNat : Int) == 48) = false := by simpa using hz1
        clear hz hg HOK HH
        go_enter Tryz.func33, Tryz.ntmps33
        go_wp2_with (fail)
        go_loopw [10, 11, 12] (NumR w s) (fun _ _ i _ => s.size - (intOf i).toNat)
        case atStart => exact ⟨0, 0, false, by omega, rfl, rfl, rfl, by omega, by omega, rfl, rfl, rfl⟩
        case round =>
          obtain ⟨k, nn, bb, hk, rfl, rfl, rfl, hn0, hn1, hall, hfold, rfl⟩ := hrel
          have HALL := Lib.hid hall
          have HFOLD := Lib.hid hfold
          clear hall hfold
          by_cases hlt : k < s.size
          · have hat := byte_at hlt
            have HAT := Lib.hid hat
            clear hat
            by_cases hdig : 48 ≤ s[k].toNat ∧ s[k].toNat ≤ 57
            · obtain ⟨hd1, hd2⟩ := hdig
              have hdb : digB s[k] = true := by unfold digB; simp [hd1, hd2]
              have HNX := Lib.hid (num_next HAT.out hdb HALL.out HFOLD.out)
              have hws := wrap_step nn s[k].toNat
              have HWS := Lib.hid hws
              have hm0 := Int.emod_nonneg (nn * 10 + ((s[k].toNat : Int) - 48)) (show (18446744073709551616 : Int) ≠ 0 by omega)
              have hm1 := Int.emod_lt_of_pos (nn * 10 + ((s[k].toNat : Int) - 48)) (show (0 : Int) < 18446744073709551616 by omega)
              have HM0 := Lib.hid hm0
              have HM1 := Lib.hid hm1
              clear hws hdb hm0 hm1
              by_cases hbig : 1152921504606846976 < nn
              · have HB2 := Lib.hid (show Value.bool true = Value.bool (bb || decide (1152921504606846976 < nn)) by rw [decide_eq_true hbig, Bool.or_true])
                go_wp2_with (fail)
                refine ⟨⟨k + 1, _, _, by omega, by simp <;> omega, by first | rw [HWS.out] | exact congrArg _ (Int.emod_eq_of_lt (by omega) (by omega)).symm, HB2.out, HM0.out, by have := HM1.out; omega, HNX.out.1, HNX.out.2, rfl⟩, by simp only [intOf]; omega⟩
              · have HB2 := Lib.hid (show Value.bool bb = Value.bool (bb || decide (1152921504606846976 < nn)) by rw [decide_eq_false hbig, Bool.or_false])
                go_wp2_with (fail)
                refine ⟨⟨k + 1, _, _, by omega, by simp <;> omega, by first | rw [HWS.out] | exact congrArg _ (Int.emod_eq_of_lt (by omega) (by omega)).symm, HB2.out, HM0.out, by have := HM1.out; omega, HNX.out.1, HNX.out.2, rfl⟩, by simp only [intOf]; omega⟩
            · have hdb : digB s[k] = false := by unfold digB; simp; omega
              have HBAD := Lib.hid (num_bad HAT.out hdb)
              clear hdb
              go_wp2_with (fail)
              all_goals first
                | (go_ret2
                   have ho := HOF.out
                   rw [HOK2.out, HBAD.out] at ho
                   exact ⟨ret_two (congrArg Prod.fst ho) (congrArg Prod.snd ho), Below.refl _ _⟩)
                | (exfalso; omega)
          · obtain rfl : k = s.size := by omega
            obtain ⟨g1, g2, g3⟩ := num_end HALL.out HFOLD.out
            have ho := HOF.out
            rw [HOK2.out, g1, if_pos rfl] at ho
            have hval := HVAL.out
            clear HVAL HVV HOF
            generalize natD 0 s.data.toList = N at g2 g3 hval
            subst hval
            cases bb with
            | true =>
              have g4 := g3 rfl
              rw [if_pos (by omega)] at ho
              have HO := Lib.hid ho
              clear ho g1 g2 g3
              go_wp2_with (fail)
              go_ret2
              exact ⟨ret_two (congrArg Prod.fst HO.out) (congrArg Prod.snd HO.out), Below.refl _ _⟩
            | false =>
              obtain ⟨rfl, g5⟩ := g2 rfl
              clear g1 g2 g3
              by_cases hN : N ≤ 9223372036854775807
              · have hwr : IntKind.i64.wrap (N : Int) = N := by rw [IntKind.wrap_i64]; omega
                by_cases hq : (N : Int) < lo ∨ hi < (N : Int)
                · rw [if_pos hq] at ho
                  have HO := Lib.hid ho
                  have HQ := Lib.hid hq
                  clear ho hq
                  go_wp2_with (fail)
                  all_goals first
                    | (go_ret2; exact ⟨ret_two (congrArg Prod.fst HO.out) (congrArg Prod.snd HO.out), Below.refl _ _⟩)
                    | (exfalso; have := HQ.out; omega)
                · rw [if_neg hq] at ho
                  have HO := Lib.hid ho
                  have hq1 : lo ≤ (N : Int) := by omega
                  have hq2 : (N : Int) ≤ hi := by omega
                  clear ho hq
                  go_wp2_with (fail)
                  go_ret2
                  exact ⟨ret_two (congrArg Prod.fst HO.out) (congrArg Prod.snd HO.out), Below.refl _ _⟩
              · rw [if_pos (by omega)] at ho
                have HO := Lib.hid ho
                clear ho
                go_wp2_with (fail)
                all_goals first
                  | (go_ret2; exact ⟨ret_two (congrArg Prod.fst HO.out) (congrArg Prod.snd HO.out), Below.refl _ _⟩)
                  | (exfalso; omega)

end Go.Proofs.YtdbiihfoafoljaaGreatDoor
