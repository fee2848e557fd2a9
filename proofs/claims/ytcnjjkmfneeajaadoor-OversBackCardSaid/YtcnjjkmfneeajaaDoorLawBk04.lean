/-
  OversBack: the walk.
-/
import Derived.Test.YtcnjjkmfneeajaaDoorAwk04
namespace Go.Proofs.YtcnjjkmfneeajaaDoor
open Go.RowKit
set_option maxRecDepth 100000
set_option maxHeartbeats 1000000

theorem law_back (balls per : Int) (w : World) (hw : LibW w) : Calls Tryd.prog 6 #[.int .i64 balls, .int .i64 per] w fun e w' => e = .returned (.bool true) ∧ Below w.heap.size w w' := by
  obtain ⟨l, y, ht⟩ : ∃ l y, textP balls per = (l, y) := ⟨_, _, rfl⟩
  have HT := Lib.hid ht
  have HW := Lib.hid hw
  clear hw
  by_cases hk : knownB per = true ∧ numberB balls = true
  · obtain ⟨hk, hb⟩ := hk
    obtain ⟨r1, r2, r3, r4, r5, r6, r7, r8⟩ := ofP_rng hk hb
    have hof : ofP balls per = (balls / per, balls % per) := by unfold ofP; rw [hk, hb]; rfl
    have hp := parse_text hk hb
    have hy : y = 0 := by unfold textP at ht; rw [hk, hb] at ht; simp only [Bool.and_self, if_true, Prod.mk.injEq] at ht; exact ht.2.symm
    have hl : l.length ≤ 4294967280 := by
      unfold textP at ht; rw [hk, hb] at ht
      simp only [Bool.and_self, if_true, Prod.mk.injEq] at ht
      rw [← ht.1, List.length_append, List.length_cons]
      have := dec_len (balls / per).toNat
      have := dec_len (balls % per).toNat
      omega
    subst hy
    rw [ht] at hp
    have he := Int.mul_ediv_add_emod balls per
    rw [Int.mul_comm] at he
    obtain ⟨o, ho⟩ : ∃ o, balls / per = o := ⟨_, rfl⟩
    obtain ⟨n, hn⟩ : ∃ n, balls % per = n := ⟨_, rfl⟩
    rw [ho, hn] at hof he
    rw [ho] at r5 r6
    rw [hn] at r7 r8
    obtain ⟨a, f, hba⟩ : ∃ a f, ballsP o n per = (a, f) := ⟨_, _, rfl⟩
    have hcase : (f = 0 ∧ a = balls) ∨ (f = 2 ∧ 100000 < o) := by
      unfold ballsP at hba
      by_cases h1 : o ≤ 100000
      · rw [if_pos (by rw [hk]; simp; omega), Prod.mk.injEq] at hba
        exact .inl ⟨hba.2.symm, hba.1.symm.trans he⟩
      · rw [if_neg (by simp; omega), Prod.mk.injEq] at hba
        exact .inr ⟨hba.2.symm, by omega⟩
    have HOF := Lib.hid hof
    have HP := Lib.hid hp
    have HBA := Lib.hid hba
    have hsz : (ByteArray.mk l.toArray).size ≤ 4294967280 := by show l.toArray.size ≤ _; rw [List.size_toArray]; exact hl
    have HSZ := Lib.hid hsz
    have HCA := Lib.hid hcase
    clear hk hb ht hof hp hba hsz hl he ho hn hcase
    go_enter Tryd.func6, Tryd.ntmps6
    go_wp2_with (fail)
    go_at_call 10
    refine (awake_p _ HW.out).mono ?_
    rintro e w1 ⟨rfl, hb1⟩
    have B1 := Lib.hid hb1
    clear hb1
    go_wp2_with (fail)
    go_at_call 13
    refine (text_o _ _ _ (HW.out.to B1.out)).mono ?_
    rintro e w2 ⟨rfl, hb2⟩
    rw [HT.out]
    have B2 := Lib.hid (B1.out.trans (hb2.mono B1.out.size))
    clear hb2
    go_wp2_with (fail)
    go_at_call 11
    refine (of_p _ _ _).mono ?_
    rintro e w3 ⟨rfl, hb3⟩
    rw [HOF.out]
    have B3 := Lib.hid (B2.out.trans (hb3.mono B2.out.size))
    clear hb3
    go_wp2_with (fail)
    go_at_call 19
    refine (balls_p _ _ _ _).mono ?_
    rintro e w4 ⟨rfl, hb4⟩
    rw [HBA.out]
    have B4 := Lib.hid (B3.out.trans (hb4.mono B3.out.size))
    clear hb4
    go_wp2_with (fail)
    go_at_call 15
    refine (parse_o _ HSZ.out _ _ (HW.out.to B4.out)).mono ?_
    rintro e w5 ⟨rfl, hb5⟩
    rw [show parseP (ByteArray.mk l.toArray).data.toList per = (balls, 0) from HP.out]
    have B5 := Lib.hid (B4.out.trans (hb5.mono B4.out.size))
    clear hb5
    rcases HCA.out with ⟨rfl, rfl⟩ | ⟨rfl, hc⟩
    all_goals
      clear HCA
      go_wp2_with (fail)
      all_goals
        go_ret
        exact ⟨ret_bool (by simp <;> omega), B5.out⟩
  · have hn : textP balls per = ([], 2) := by unfold textP; rw [if_neg (by simpa using hk)]
    rw [hn, Prod.mk.injEq] at ht
    obtain ⟨rfl, rfl⟩ := ht
    clear hk hn
    go_enter Tryd.func6, Tryd.ntmps6
    go_wp2_with (fail)
    go_at_call 10
    refine (awake_p _ HW.out).mono ?_
    rintro e w1 ⟨rfl, hb1⟩
    have B1 := Lib.hid hb1
    clear hb1
    go_wp2_with (fail)
    go_at_call 13
    refine (text_o _ _ _ (HW.out.to B1.out)).mono ?_
    rintro e w2 ⟨rfl, hb2⟩
    rw [HT.out]
    have B2 := Lib.hid (B1.out.trans (hb2.mono B1.out.size))
    clear hb2
    go_wp2_with (fail)
    go_ret
    exact ⟨ret_bool (by rfl), B2.out⟩
end Go.Proofs.YtcnjjkmfneeajaaDoor
