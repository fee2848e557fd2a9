/-
  overs.Text, overs.Parse.
-/
import Derived.Test.YtcnjjkmfneeajaaDoorNum04
namespace Go.Proofs.YtcnjjkmfneeajaaDoor
open Go.RowKit
set_option maxRecDepth 100000
set_option maxHeartbeats 1000000

theorem cut_dot (l : List UInt8) : Lib.cut l [46] = match dotAt l with | some i => (l.take i, l.drop (i + 1), true) | none => (l, [], false) := by
  unfold Lib.cut
  rw [index_dot]
  cases dotAt l with
  | none => rfl
  | some i => simp
theorem numP_rng {l : List UInt8} {lo hi : Int} (h0 : lo ≤ 0) (h1 : 0 ≤ hi) : lo ≤ (numP l lo hi).1 ∧ (numP l lo hi).1 ≤ hi := by
  unfold numP
  split
  · split
    · exact ⟨h0, h1⟩
    · simp only; omega
  · exact ⟨h0, h1⟩
theorem numP_nil (lo hi : Int) : numP [] lo hi = (0, 4) := rfl
def errN (n : Int) : Prop := n = 0 ∨ n = 2 ∨ n = 4
theorem parse_o (s : ByteArray) (hs : s.size ≤ 4294967280) (per : Int) (w : World) (hw : LibW w) :
    Calls Tryd.prog 15 #[.string s, .int .i64 per] w fun e w' => e = .returned (.tuple #[.int .i64 (parseP s.data.toList per).1, .int .i64 (parseP s.data.toList per).2]) ∧ Below w.heap.size w w' := by
  obtain ⟨x, y, hv⟩ : ∃ x y, parseP s.data.toList per = (x, y) := ⟨_, _, rfl⟩
  rw [hv]
  unfold parseP at hv
  cases h1 : knownB per
  · have H1 := Lib.hid h1
    rw [h1] at hv
    have HV := Lib.hid hv
    clear hv h1 hw
    go_enter Tryd.func15, Tryd.ntmps15
    go_wp2_with (go_at_call 26; refine (known_p _ _).mono ?_; rintro e w1 ⟨rfl, rfl⟩; rw [H1.out])
    go_ret2
    exact ⟨ret_two (congrArg Prod.fst HV.out) (congrArg Prod.snd HV.out), Below.refl _ _⟩
  have H1 := Lib.hid h1
  rw [h1, if_pos rfl] at hv
  have hpr : 1 ≤ per ∧ per ≤ 8 := by unfold knownB at h1; simpa using h1
  obtain ⟨hp1, hp2⟩ := hpr
  have HW := Lib.hid hw
  obtain ⟨m, hm⟩ := hw.maxlen
  have HM := Lib.hid hm
  have hlen : s.data.toList.length = s.size := by simp
  obtain ⟨a, b, ok, hc⟩ : ∃ a b ok, Lib.cut s.data.toList [46] = (a, b, ok) := ⟨_, _, _, rfl⟩
  have hab : a.length ≤ s.size ∧ b.length ≤ s.size := by
    have := hc
    rw [cut_dot] at this
    cases hd : dotAt s.data.toList with
    | none => rw [hd] at this; simp only [Prod.mk.injEq] at this; obtain ⟨rfl, rfl, _⟩ := this; exact ⟨by omega, by simp⟩
    | some i => rw [hd] at this; simp only [Prod.mk.injEq] at this; obtain ⟨rfl, rfl, _⟩ := this; rw [List.length_take, List.length_drop]; omega
  have hva : (if ok = true ∧ (numP a 0 1000000).2 = 0 ∧ (numP b 0 (per - 1)).2 = 0 ∧ (numP a 0 1000000).1 * per + (numP b 0 (per - 1)).1 ≤ 1000000 then ((numP a 0 1000000).1 * per + (numP b 0 (per - 1)).1, 0) else (0, 4)) = (x, y) := by
    have := hc
    rw [cut_dot] at this
    cases hd : dotAt s.data.toList with
    | none =>
      rw [hd] at this hv
      simp only [Prod.mk.injEq] at this
      obtain ⟨rfl, rfl, rfl⟩ := this
      rw [if_neg (by simp)]
      exact hv
    | some i =>
      rw [hd] at this hv
      simp only [Prod.mk.injEq] at this
      obtain ⟨rfl, rfl, rfl⟩ := this
      simpa using hv
  obtain ⟨ov, e1, hna⟩ : ∃ ov e1, numP a 0 1000000 = (ov, e1) := ⟨_, _, rfl⟩
  obtain ⟨re, e2, hnb⟩ : ∃ re e2, numP b 0 (per - 1) = (re, e2) := ⟨_, _, rfl⟩
  have r1 := numP_rng (l := a) (lo := 0) (hi := 1000000) (by omega) (by omega)
  have r2 := numP_rng (l := b) (lo := 0) (hi := per - 1) (by omega) (by omega)
  rw [hna] at r1 hva
  rw [hnb] at r2 hva
  obtain ⟨r1a, r1b⟩ := r1
  obtain ⟨r2a, r2b⟩ := r2
  simp only at r1a r1b r2a r2b hva
  have m1 : 0 ≤ ov * per := Int.mul_nonneg r1a (by omega)
  have m2 : ov * per ≤ 1000000 * 8 := Int.mul_le_mul r1b hp2 (by omega) (by omega)
  have HC := Lib.hid hc
  have HNA := Lib.hid hna
  have HNB := Lib.hid hnb
  have HVA := Lib.hid hva
  have hsa : (ByteArray.mk a.toArray).size ≤ 281474976710656 := by show a.toArray.size ≤ _; rw [List.size_toArray]; omega
  have hsb : (ByteArray.mk b.toArray).size ≤ 281474976710656 := by show b.toArray.size ≤ _; rw [List.size_toArray]; omega
  have HSA := Lib.hid hsa
  have HSB := Lib.hid hsb
  clear hc hna hnb hva hv h1 hw hm hab hlen hsa hsb
  go_enter Tryd.func15, Tryd.ntmps15
  go_wp2_with (first
    | (go_at_call 26; refine (known_p _ _).mono ?_; rintro e w1 ⟨rfl, rfl⟩; rw [H1.out])
    | (go_at_call 31; refine (Tryd.cut_p _ _ m _ (by omega) HM.out).mono ?_; rintro e w1 ⟨rfl, hb⟩; rw [show Lib.cut s.data.toList (ByteArray.mk #[46]).data.toList = (a, b, ok) from HC.out]; have HB := Lib.hid hb; clear hb))
  go_at_call 32
  refine (number_t _ HSA.out _ _ (by omega) (by omega) _ (HW.out.to HB.out)).mono ?_
  rintro e w2 ⟨rfl, hb2⟩
  rw [show numP (ByteArray.mk a.toArray).data.toList 0 1000000 = (ov, e1) from HNA.out]
  have HB2 := Lib.hid (HB.out.trans (hb2.mono HB.out.size))
  clear hb2
  go_wp2_with (fail)
  go_at_call 32
  refine (number_t _ HSB.out _ _ (by omega) (by omega) _ (HW.out.to HB2.out)).mono ?_
  rintro e w3 ⟨rfl, hb3⟩
  rw [show numP (ByteArray.mk b.toArray).data.toList 0 (per - 1) = (re, e2) from HNB.out]
  have HB3 := Lib.hid (HB2.out.trans (hb3.mono HB2.out.size))
  clear hb3
  by_cases g : ok = true ∧ e1 = 0 ∧ e2 = 0 ∧ ov * per + re ≤ 1000000
  · have HV := HVA.out
    rw [if_pos g] at HV
    obtain ⟨rfl, rfl, rfl, g4⟩ := g
    have HVH := Lib.hid HV
    clear HV
    go_wp2_with (fail)
    go_ret2
    exact ⟨ret_two (congrArg Prod.fst HVH.out) (congrArg Prod.snd HVH.out), HB3.out⟩
  · have HV := HVA.out
    rw [if_neg g] at HV
    have HVH := Lib.hid HV
    have HG := Lib.hid g
    clear HV g
    go_wp2_with (fail)
    all_goals first
      | (go_ret2; exact ⟨ret_two (congrArg Prod.fst HVH.out) (congrArg Prod.snd HVH.out), HB3.out⟩)
      | (exfalso; have := HG.out; simp_all)

theorem dec_len (u : Nat) : (Lib.decDigits u).length ≤ u + 1 := by
  induction u using Nat.strongRecOn with
  | _ u ih =>
    by_cases h : u < 10
    · rw [decDigits_small h]; simp
    · rw [decDigits_big h, List.length_append]
      have := ih (u / 10) (by omega)
      simp only [List.length_cons, List.length_nil]
      omega
theorem cat_dot (a b : List UInt8) : (ByteArray.mk a.toArray ++ ByteArray.mk #[46] ++ ByteArray.mk b.toArray) = ByteArray.mk (a ++ 46 :: b).toArray := by
  apply ByteArray.ext
  simp [ByteArray.data_append]
theorem ret_ss {s : ByteArray} {a b : List UInt8} {c d : Int} {k : IntKind} (h0 : s = ⟨a.toArray⟩) (h1 : a = b) (h2 : c = d) : Ending.returned (.tuple #[.string s, .int k c]) = .returned (.tuple #[.string ⟨b.toArray⟩, .int k d]) := by rw [h0, h1, h2]
theorem ret_si {a b : List UInt8} {c d : Int} {k : IntKind} (h1 : a = b) (h2 : c = d) : Ending.returned (.tuple #[.string ⟨a.toArray⟩, .int k c]) = .returned (.tuple #[.string ⟨b.toArray⟩, .int k d]) := by rw [h1, h2]
theorem text_o (balls per : Int) (w : World) (hw : LibW w) :
    Calls Tryd.prog 13 #[.int .i64 balls, .int .i64 per] w fun e w' => e = .returned (.tuple #[.string ⟨(textP balls per).1.toArray⟩, .int .i64 (textP balls per).2]) ∧ Below w.heap.size w w' := by
  obtain ⟨x, y, hv⟩ : ∃ x y, textP balls per = (x, y) := ⟨_, _, rfl⟩
  rw [hv]
  unfold textP at hv
  cases h1 : knownB per <;> cases h2 : numberB balls
  all_goals
    have H1 := Lib.hid h1
    have H2 := Lib.hid h2
    rw [h1, h2] at hv
    have HV := Lib.hid hv
  rotate_right
  · obtain ⟨r1, r2, r3, r4, r5, r6, r7, r8⟩ := ofP_rng h1 h2
    have hof : ofP balls per = (balls / per, balls % per) := by unfold ofP; rw [h1, h2]; rfl
    have HOF := Lib.hid hof
    have HW := Lib.hid hw
    obtain ⟨ov, ho⟩ : ∃ ov, balls / per = ov := ⟨_, rfl⟩
    obtain ⟨re, hre⟩ : ∃ re, balls % per = re := ⟨_, rfl⟩
    rw [ho] at r5 r6 HV HOF
    rw [hre] at r7 r8 HV HOF
    have io : Lib.itoa ov = Lib.decDigits ov.toNat := by unfold Lib.itoa; rw [if_neg (by omega)]
    have ir : Lib.itoa re = Lib.decDigits re.toNat := by unfold Lib.itoa; rw [if_neg (by omega)]
    have lo1 := dec_len ov.toNat
    have lr1 := dec_len re.toNat
    have IO := Lib.hid io
    have IR := Lib.hid ir
    clear h1 h2 hv hof hw ho hre io ir
    go_enter Tryd.func13, Tryd.ntmps13
    go_wp2_with (first
      | (go_at_call 26; refine (known_p _ _).mono ?_; rintro e w1 ⟨rfl, rfl⟩; rw [H1.out])
      | (go_at_call 27; refine (between_p _ _ _ _ _ rfl).mono ?_; rintro e w1 ⟨rfl, rfl⟩; rw [btw_num, H2.out])
      | (go_at_call 11; refine (of_p _ _ _).mono ?_; rintro e w1 ⟨rfl, hb⟩; rw [HOF.out]; have HB := Lib.hid hb; clear hb))
    go_at_call 29
    refine (Tryd.itoa_p _ (by omega) (by omega) _ (HW.out.to HB.out).tab).mono ?_
    rintro e w2 ⟨rfl, hb2⟩
    rw [IO.out]
    have HB2 := Lib.hid (HB.out.trans (hb2.mono HB.out.size))
    clear hb2
    go_wp2_with (fail)
    go_at_call 29
    refine (Tryd.itoa_p _ (by omega) (by omega) _ (HW.out.to HB2.out).tab).mono ?_
    rintro e w3 ⟨rfl, hb3⟩
    rw [IR.out]
    have HB3 := Lib.hid (HB2.out.trans (hb3.mono HB2.out.size))
    clear hb3
    go_wp2_with (fail)
    go_ret2
    exact ⟨ret_ss (cat_dot _ _) (congrArg Prod.fst HV.out) (congrArg Prod.snd HV.out), HB3.out⟩
  all_goals
    clear h1 h2 hv hw
    go_enter Tryd.func13, Tryd.ntmps13
    go_wp2_with (first
      | (go_at_call 26; refine (known_p _ _).mono ?_; rintro e w1 ⟨rfl, rfl⟩; rw [H1.out])
      | (go_at_call 27; refine (between_p _ _ _ _ _ rfl).mono ?_; rintro e w1 ⟨rfl, rfl⟩; rw [btw_num, H2.out]))
    all_goals go_ret2
    exact ⟨ret_si (congrArg Prod.fst HV.out) (congrArg Prod.snd HV.out), Below.refl _ _⟩
end Go.Proofs.YtcnjjkmfneeajaaDoor
