/-
  Text and Parse of the reference; OversTexts: the walk.
-/
import Derived.Test.YtcnjjkmfneeajaaDoorAwk04
import Derived.Test.YtcnjjkmfneeajaaDoorNumR04
namespace Go.Proofs.YtcnjjkmfneeajaaDoor
open Go.RowKit
set_option maxRecDepth 100000
set_option maxHeartbeats 1000000

theorem text_r (balls per : Int) (w : World) :
    Calls Tryd.prog 14 #[.int .i64 balls, .int .i64 per] w fun e w' => e = .returned (.tuple #[.string ⟨(textP balls per).1.toArray⟩, .int .i64 (textP balls per).2]) ∧ Below w.heap.size w w' := by
  obtain ⟨x, y, hv⟩ : ∃ x y, textP balls per = (x, y) := ⟨_, _, rfl⟩
  rw [hv]
  unfold textP at hv
  by_cases hu : (knownB per && numberB balls) = true
  · rw [if_pos hu] at hv
    rw [Bool.and_eq_true] at hu
    obtain ⟨h1, h2⟩ := hu
    have H1 := Lib.hid h1
    obtain ⟨r1, r2, r3, r4, r5, r6, r7, r8⟩ := ofP_rng h1 h2
    have hof : ofP balls per = (balls / per, balls % per) := by unfold ofP; rw [h1, h2]; rfl
    have HOF := Lib.hid hof
    have HV := Lib.hid hv
    obtain ⟨ov, ho⟩ : ∃ ov : Nat, balls / per = ov := ⟨(balls / per).toNat, by omega⟩
    obtain ⟨re, hre⟩ : ∃ re : Nat, balls % per = re := ⟨(balls % per).toNat, by omega⟩
    rw [ho] at r5 r6 HV HOF
    rw [hre] at r7 r8 HV HOF
    have lo1 := dec_len ov
    have lr1 := dec_len re
    clear h1 h2 hv hof ho hre
    go_enter Tryd.func14, Tryd.ntmps14
    go_wp2_with (first
      | (go_at_call 28; refine (perOK_r _ _).mono ?_; rintro e w1 ⟨rfl, rfl⟩; rw [H1.out])
      | (go_at_call 12; refine (of_r _ _ _).mono ?_; rintro e w1 ⟨rfl, hb⟩; rw [HOF.out]; have HB := Lib.hid hb; clear hb))
    go_at_call 30
    refine (decimal_r ov (by omega) _).mono ?_
    rintro e w2 ⟨rfl, hb2⟩
    have HB2 := Lib.hid (HB.out.trans (hb2.mono HB.out.size))
    clear hb2
    go_wp2_with (fail)
    go_at_call 30
    refine (decimal_r re (by omega) _).mono ?_
    rintro e w3 ⟨rfl, hb3⟩
    have HB3 := Lib.hid (HB2.out.trans (hb3.mono HB2.out.size))
    clear hb3
    go_wp2_with (fail)
    go_ret2
    exact ⟨ret_ss (cat_dot _ _) (congrArg Prod.fst HV.out) (congrArg Prod.snd HV.out), HB3.out⟩
  · rw [if_neg hu] at hv
    have HV := Lib.hid hv
    cases h1 : knownB per
    · have H1 := Lib.hid h1
      clear h1 hv hu
      go_enter Tryd.func14, Tryd.ntmps14
      go_wp2_with (go_at_call 28; refine (perOK_r _ _).mono ?_; rintro e w1 ⟨rfl, rfl⟩; rw [H1.out])
      go_ret2
      exact ⟨ret_si (congrArg Prod.fst HV.out) (congrArg Prod.snd HV.out), Below.refl _ _⟩
    · have H1 := Lib.hid h1
      have hn : balls < 0 ∨ 1000000 < balls := by rw [h1] at hu; unfold numberB at hu; simp at hu; omega
      clear h1 hv hu
      rcases hn with hn | hn
      all_goals
        go_enter Tryd.func14, Tryd.ntmps14
        go_wp2_with (go_at_call 28; refine (perOK_r _ _).mono ?_; rintro e w1 ⟨rfl, rfl⟩; rw [H1.out])
        go_ret2
        exact ⟨ret_si (congrArg Prod.fst HV.out) (congrArg Prod.snd HV.out), Below.refl _ _⟩

def ParR (w : World) (s : ByteArray) (i : Value) (wr : World) : Prop := ∃ k : Nat, k ≤ s.size ∧ i = .int .i64 k ∧ (∀ j, j < k → s.data.toList[j]? ≠ some 46) ∧ wr = w
theorem parse_r (s : ByteArray) (hs : s.size ≤ 4294967280) (per : Int) (w : World) :
    Calls Tryd.prog 16 #[.string s, .int .i64 per] w fun e w' => e = .returned (.tuple #[.int .i64 (parseP s.data.toList per).1, .int .i64 (parseP s.data.toList per).2]) ∧ Below w.heap.size w w' := by
  obtain ⟨x, y, hv⟩ : ∃ x y, parseP s.data.toList per = (x, y) := ⟨_, _, rfl⟩
  rw [hv]
  unfold parseP at hv
  cases h1 : knownB per
  · have H1 := Lib.hid h1
    rw [h1] at hv
    have HV := Lib.hid hv
    clear hv h1
    go_enter Tryd.func16, Tryd.ntmps16
    go_wp2_with (go_at_call 28; refine (perOK_r _ _).mono ?_; rintro e w1 ⟨rfl, rfl⟩; rw [H1.out])
    go_ret2
    exact ⟨ret_two (congrArg Prod.fst HV.out) (congrArg Prod.snd HV.out), Below.refl _ _⟩
  have H1 := Lib.hid h1
  rw [h1, if_pos rfl] at hv
  have HV := Lib.hid hv
  have hpr : 1 ≤ per ∧ per ≤ 8 := by unfold knownB at h1; simpa using h1
  obtain ⟨hp1, hp2⟩ := hpr
  clear hv h1
  go_enter Tryd.func16, Tryd.ntmps16
  go_wp2_with (go_at_call 28; refine (perOK_r _ _).mono ?_; rintro e w1 ⟨rfl, rfl⟩; rw [H1.out])
  go_loopw [16] (ParR w s) (fun i _ => s.size - (intOf i).toNat)
  case atStart => exact ⟨0, by omega, rfl, fun j hj => by omega, rfl⟩
  case round =>
    obtain ⟨k, hk, rfl, hno, rfl⟩ := hrel
    have HNO := Lib.hid hno
    clear hno
    by_cases hlt : k < s.size
    · have HAT := Lib.hid (byte_at hlt)
      by_cases hc : (s[k].toNat : Int) = 46
      · have hdot : dotAt s.data.toList = some k := dotAt_first _ _ HNO.out (by
          rw [HAT.out]
          have : s[k] = 46 := by
            apply UInt8.toNat_inj.1
            have : s[k].toNat = 46 := by omega
            rw [this]; rfl
          rw [this])
        have hva := HV.out
        rw [hdot] at hva
        obtain ⟨A, hA⟩ : ∃ A, s.extract 0 k = A := ⟨_, rfl⟩
        obtain ⟨B, hB⟩ : ∃ B, s.extract (k + 1) s.size = B := ⟨_, rfl⟩
        have eA : A.data.toList = s.data.toList.take k := by rw [← hA, ByteArray.data_extract, Array.toList_extract]; simp [List.extract]
        have eB : B.data.toList = s.data.toList.drop (k + 1) := by
          rw [← hB, ByteArray.data_extract, Array.toList_extract]
          simp [List.extract, List.take_of_length_le]
        have zA : A.size ≤ 281474976710656 := by rw [← hA]; simp; omega
        have zB : B.size ≤ 281474976710656 := by rw [← hB]; simp; omega
        obtain ⟨ov, e1, hna⟩ : ∃ ov e1, numP (s.data.toList.take k) 0 1000000 = (ov, e1) := ⟨_, _, rfl⟩
        obtain ⟨re, e2, hnb⟩ : ∃ re e2, numP (s.data.toList.drop (k + 1)) 0 (per - 1) = (re, e2) := ⟨_, _, rfl⟩
        have r1 := numP_rng (l := s.data.toList.take k) (lo := 0) (hi := 1000000) (by omega) (by omega)
        have r2 := numP_rng (l := s.data.toList.drop (k + 1)) (lo := 0) (hi := per - 1) (by omega) (by omega)
        rw [hna] at r1
        rw [hnb] at r2
        simp only [hna, hnb] at hva
        obtain ⟨r1a, r1b⟩ := r1
        obtain ⟨r2a, r2b⟩ := r2
        simp only at r1a r1b r2a r2b
        have m1 : 0 ≤ ov * per := Int.mul_nonneg r1a (by omega)
        have m2 : ov * per ≤ 1000000 * 8 := Int.mul_le_mul r1b hp2 (by omega) (by omega)
        have HNA := Lib.hid (show numP A.data.toList 0 1000000 = (ov, e1) by rw [eA]; exact hna)
        have HNB := Lib.hid (show numP B.data.toList 0 (per - 1) = (re, e2) by rw [eB]; exact hnb)
        have HVA := Lib.hid hva
        have HA := Lib.hid hA
        have HB := Lib.hid hB
        have ZA := Lib.hid zA
        have ZB := Lib.hid zB
        clear hva hdot hA hB eA eB zA zB hna hnb
        go_wp2_with (fail)
        rw [HA.out]
        go_at_call 33
        refine (number_r _ ZA.out _ _ (by omega) (by omega) _).mono ?_
        rintro e w2 ⟨rfl, hb2⟩
        rw [HNA.out]
        have HB2 := Lib.hid hb2
        clear hb2
        go_wp2_with (fail)
        rw [HB.out]
        go_at_call 33
        refine (number_r _ ZB.out _ _ (by omega) (by omega) _).mono ?_
        rintro e w3 ⟨rfl, hb3⟩
        rw [HNB.out]
        have HB3 := Lib.hid (HB2.out.trans (hb3.mono HB2.out.size))
        clear hb3
        by_cases g : e1 = 0 ∧ e2 = 0 ∧ ov * per + re ≤ 1000000
        · have ho := HVA.out
          rw [if_pos g] at ho
          obtain ⟨rfl, rfl, g4⟩ := g
          have HO := Lib.hid ho
          clear ho
          go_wp2_with (fail)
          try go_quiet (fail)
          all_goals try go_wp2
          go_ret2
          exact ⟨ret_two (congrArg Prod.fst HO.out) (congrArg Prod.snd HO.out), HB3.out⟩
        · have ho := HVA.out
          rw [if_neg g] at ho
          have HO := Lib.hid ho
          have HG := Lib.hid g
          clear ho g
          go_wp2_with (fail)
          all_goals first
            | (go_ret2; exact ⟨ret_two (congrArg Prod.fst HO.out) (congrArg Prod.snd HO.out), HB3.out⟩)
            | (exfalso; have := HG.out; simp_all)
      · have hnx : ∀ j, j < k + 1 → s.data.toList[j]? ≠ some 46 := by
          intro j hj
          by_cases hjk : j = k
          · subst hjk
            rw [HAT.out]
            intro h
            simp only [Option.some.injEq] at h
            rw [h] at hc
            exact hc rfl
          · exact HNO.out j (by omega)
        have HNX := Lib.hid hnx
        clear hnx
        go_wp2_with (fail)
        exact ⟨⟨k + 1, by omega, by simp <;> omega, HNX.out, rfl⟩, by simp only [intOf]; omega⟩
    · have hdot : dotAt s.data.toList = none := dotAt_none _ fun j hj => HNO.out j (Nat.lt_of_lt_of_le hj (by rw [show s.data.toList.length = s.size by simp]; omega))
      have hva := HV.out
      rw [hdot] at hva
      have HVA := Lib.hid hva
      clear hva hdot
      go_wp2_with (fail)
      go_ret2
      exact ⟨ret_two (congrArg Prod.fst HVA.out) (congrArg Prod.snd HVA.out), Below.refl _ _⟩
end Go.Proofs.YtcnjjkmfneeajaaDoor
