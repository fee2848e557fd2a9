/-
  Chapter 3: the bytes of a line, a quoted string, of the program.
-/
import Derived.Test.YtgkjcapoddjkhaaGreatDoorRows
import Derived.Test.YtgkjcapoddjkhaaGreatDoorLinR
import Derived.Laws.IdiomStrings
import Derived.LoopTactic
set_option linter.unusedSimpArgs false
set_option linter.unusedVariables false
namespace Go.Proofs.YtgkjcapoddjkhaaGreatDoor
open Go.RowKit
set_option maxRecDepth 100000
set_option maxHeartbeats 4000000
theorem u8_eq (c d : UInt8) : (c == d) = decide (c.toNat = d.toNat) := by
  rw [Bool.eq_iff_iff]
  simp only [beq_iff_eq, decide_eq_true_eq]
  exact ⟨fun h => by rw [h], fun h => UInt8.toNat.inj h⟩
theorem whiteC_n (c : UInt8) : whiteC c = (decide (c.toNat = 9) || decide (c.toNat = 32)) := by
  unfold whiteC; rw [u8_eq, u8_eq]; rfl
theorem printC_n (c : UInt8) : printC c = (decide (32 ≤ c.toNat) && decide (c.toNat ≤ 126)) := by
  unfold printC; rfl
theorem wordC_n (c : UInt8) : wordC c = (decide (32 < c.toNat) && decide (c.toNat ≤ 126) && !decide (c.toNat = 34) && !decide (c.toNat = 59)) := by
  unfold wordC bne; rw [u8_eq, u8_eq]; rfl
theorem white_p (c : UInt8) (w : World) : Calls Tryz.prog 92 #[.int .u8 c.toNat] w fun e w' => e = .returned (.bool (whiteC c)) ∧ w = w' := by
  obtain ⟨v, hv⟩ : ∃ v, whiteC c = v := ⟨_, rfl⟩
  rw [hv]
  rw [whiteC_n] at hv
  generalize c.toNat = n at *
  by_cases h1 : n = 9
  · have g0 : ((n : Int) == 9) = true := by simp <;> omega
    by_cases h2 : n = 32
    · have g1 : ((n : Int) == 32) = true := by simp <;> omega
      have hv2 := Lib.hid hv
      clear hv
      go_enter Tryz.func92, Tryz.ntmps92
      go_wp2_with fail
      go_ret
      exact ⟨by rw [← hv2.out]; simp [h1, h2] <;> omega, rfl⟩
    · have g1 : ((n : Int) == 32) = false := by simp <;> omega
      have hv2 := Lib.hid hv
      clear hv
      go_enter Tryz.func92, Tryz.ntmps92
      go_wp2_with fail
      go_ret
      exact ⟨by rw [← hv2.out]; simp [h1, h2] <;> omega, rfl⟩
  · have g0 : ((n : Int) == 9) = false := by simp <;> omega
    by_cases h2 : n = 32
    · have g1 : ((n : Int) == 32) = true := by simp <;> omega
      have hv2 := Lib.hid hv
      clear hv
      go_enter Tryz.func92, Tryz.ntmps92
      go_wp2_with fail
      go_ret
      exact ⟨by rw [← hv2.out]; simp [h1, h2] <;> omega, rfl⟩
    · have g1 : ((n : Int) == 32) = false := by simp <;> omega
      have hv2 := Lib.hid hv
      clear hv
      go_enter Tryz.func92, Tryz.ntmps92
      go_wp2_with fail
      go_ret
      exact ⟨by rw [← hv2.out]; simp [h1, h2] <;> omega, rfl⟩
theorem printed_p (c : UInt8) (w : World) : Calls Tryz.prog 116 #[.int .u8 c.toNat] w fun e w' => e = .returned (.bool (printC c)) ∧ w = w' := by
  obtain ⟨v, hv⟩ : ∃ v, printC c = v := ⟨_, rfl⟩
  rw [hv]
  rw [printC_n] at hv
  generalize c.toNat = n at *
  by_cases h1 : 32 ≤ n
  · have g0 : decide (32 ≤ (n : Int)) = true := by simp <;> omega
    by_cases h2 : n ≤ 126
    · have g1 : decide ((n : Int) ≤ 126) = true := by simp <;> omega
      have hv2 := Lib.hid hv
      clear hv
      go_enter Tryz.func116, Tryz.ntmps116
      go_wp2_with fail
      go_ret
      exact ⟨by rw [← hv2.out]; simp [h1, h2] <;> omega, rfl⟩
    · have g1 : decide ((n : Int) ≤ 126) = false := by simp <;> omega
      have hv2 := Lib.hid hv
      clear hv
      go_enter Tryz.func116, Tryz.ntmps116
      go_wp2_with fail
      go_ret
      exact ⟨by rw [← hv2.out]; simp [h1, h2] <;> omega, rfl⟩
  · have g0 : decide (32 ≤ (n : Int)) = false := by simp <;> omega
    by_cases h2 : n ≤ 126
    · have g1 : decide ((n : Int) ≤ 126) = true := by simp <;> omega
      have hv2 := Lib.hid hv
      clear hv
      go_enter Tryz.func116, Tryz.ntmps116
      go_wp2_with fail
      go_ret
      exact ⟨by rw [← hv2.out]; simp [h1, h2] <;> omega, rfl⟩
    · have g1 : decide ((n : Int) ≤ 126) = false := by simp <;> omega
      have hv2 := Lib.hid hv
      clear hv
      go_enter Tryz.func116, Tryz.ntmps116
      go_wp2_with fail
      go_ret
      exact ⟨by rw [← hv2.out]; simp [h1, h2] <;> omega, rfl⟩
theorem wordb_p (c : UInt8) (w : World) : Calls Tryz.prog 94 #[.int .u8 c.toNat] w fun e w' => e = .returned (.bool (wordC c)) ∧ w = w' := by
  obtain ⟨v, hv⟩ : ∃ v, wordC c = v := ⟨_, rfl⟩
  rw [hv]
  rw [wordC_n] at hv
  generalize c.toNat = n at *
  by_cases h1 : 32 < n
  · have g0 : decide (32 < (n : Int)) = true := by simp <;> omega
    by_cases h2 : n ≤ 126
    · have g1 : decide ((n : Int) ≤ 126) = true := by simp <;> omega
      by_cases h3 : n = 34
      · have g2 : ((n : Int) == 34) = true := by simp <;> omega
        by_cases h4 : n = 59
        · have g3 : ((n : Int) == 59) = true := by simp <;> omega
          have hv2 := Lib.hid hv
          clear hv
          go_enter Tryz.func94, Tryz.ntmps94
          go_wp2_with fail
          go_ret
          exact ⟨by rw [← hv2.out]; simp [h1, h2, h3, h4] <;> omega, rfl⟩
        · have g3 : ((n : Int) == 59) = false := by simp <;> omega
          have hv2 := Lib.hid hv
          clear hv
          go_enter Tryz.func94, Tryz.ntmps94
          go_wp2_with fail
          go_ret
          exact ⟨by rw [← hv2.out]; simp [h1, h2, h3, h4] <;> omega, rfl⟩
      · have g2 : ((n : Int) == 34) = false := by simp <;> omega
        by_cases h4 : n = 59
        · have g3 : ((n : Int) == 59) = true := by simp <;> omega
          have hv2 := Lib.hid hv
          clear hv
          go_enter Tryz.func94, Tryz.ntmps94
          go_wp2_with fail
          go_ret
          exact ⟨by rw [← hv2.out]; simp [h1, h2, h3, h4] <;> omega, rfl⟩
        · have g3 : ((n : Int) == 59) = false := by simp <;> omega
          have hv2 := Lib.hid hv
          clear hv
          go_enter Tryz.func94, Tryz.ntmps94
          go_wp2_with fail
          go_ret
          exact ⟨by rw [← hv2.out]; simp [h1, h2, h3, h4] <;> omega, rfl⟩
    · have g1 : decide ((n : Int) ≤ 126) = false := by simp <;> omega
      by_cases h3 : n = 34
      · have g2 : ((n : Int) == 34) = true := by simp <;> omega
        by_cases h4 : n = 59
        · have g3 : ((n : Int) == 59) = true := by simp <;> omega
          have hv2 := Lib.hid hv
          clear hv
          go_enter Tryz.func94, Tryz.ntmps94
          go_wp2_with fail
          go_ret
          exact ⟨by rw [← hv2.out]; simp [h1, h2, h3, h4] <;> omega, rfl⟩
        · have g3 : ((n : Int) == 59) = false := by simp <;> omega
          have hv2 := Lib.hid hv
          clear hv
          go_enter Tryz.func94, Tryz.ntmps94
          go_wp2_with fail
          go_ret
          exact ⟨by rw [← hv2.out]; simp [h1, h2, h3, h4] <;> omega, rfl⟩
      · have g2 : ((n : Int) == 34) = false := by simp <;> omega
        by_cases h4 : n = 59
        · have g3 : ((n : Int) == 59) = true := by simp <;> omega
          have hv2 := Lib.hid hv
          clear hv
          go_enter Tryz.func94, Tryz.ntmps94
          go_wp2_with fail
          go_ret
          exact ⟨by rw [← hv2.out]; simp [h1, h2, h3, h4] <;> omega, rfl⟩
        · have g3 : ((n : Int) == 59) = false := by simp <;> omega
          have hv2 := Lib.hid hv
          clear hv
          go_enter Tryz.func94, Tryz.ntmps94
          go_wp2_with fail
          go_ret
          exact ⟨by rw [← hv2.out]; simp [h1, h2, h3, h4] <;> omega, rfl⟩
  · have g0 : decide (32 < (n : Int)) = false := by simp <;> omega
    by_cases h2 : n ≤ 126
    · have g1 : decide ((n : Int) ≤ 126) = true := by simp <;> omega
      by_cases h3 : n = 34
      · have g2 : ((n : Int) == 34) = true := by simp <;> omega
        by_cases h4 : n = 59
        · have g3 : ((n : Int) == 59) = true := by simp <;> omega
          have hv2 := Lib.hid hv
          clear hv
          go_enter Tryz.func94, Tryz.ntmps94
          go_wp2_with fail
          go_ret
          exact ⟨by rw [← hv2.out]; simp [h1, h2, h3, h4] <;> omega, rfl⟩
        · have g3 : ((n : Int) == 59) = false := by simp <;> omega
          have hv2 := Lib.hid hv
          clear hv
          go_enter Tryz.func94, Tryz.ntmps94
          go_wp2_with fail
          go_ret
          exact ⟨by rw [← hv2.out]; simp [h1, h2, h3, h4] <;> omega, rfl⟩
      · have g2 : ((n : Int) == 34) = false := by simp <;> omega
        by_cases h4 : n = 59
        · have g3 : ((n : Int) == 59) = true := by simp <;> omega
          have hv2 := Lib.hid hv
          clear hv
          go_enter Tryz.func94, Tryz.ntmps94
          go_wp2_with fail
          go_ret
          exact ⟨by rw [← hv2.out]; simp [h1, h2, h3, h4] <;> omega, rfl⟩
        · have g3 : ((n : Int) == 59) = false := by simp <;> omega
          have hv2 := Lib.hid hv
          clear hv
          go_enter Tryz.func94, Tryz.ntmps94
          go_wp2_with fail
          go_ret
          exact ⟨by rw [← hv2.out]; simp [h1, h2, h3, h4] <;> omega, rfl⟩
    · have g1 : decide ((n : Int) ≤ 126) = false := by simp <;> omega
      by_cases h3 : n = 34
      · have g2 : ((n : Int) == 34) = true := by simp <;> omega
        by_cases h4 : n = 59
        · have g3 : ((n : Int) == 59) = true := by simp <;> omega
          have hv2 := Lib.hid hv
          clear hv
          go_enter Tryz.func94, Tryz.ntmps94
          go_wp2_with fail
          go_ret
          exact ⟨by rw [← hv2.out]; simp [h1, h2, h3, h4] <;> omega, rfl⟩
        · have g3 : ((n : Int) == 59) = false := by simp <;> omega
          have hv2 := Lib.hid hv
          clear hv
          go_enter Tryz.func94, Tryz.ntmps94
          go_wp2_with fail
          go_ret
          exact ⟨by rw [← hv2.out]; simp [h1, h2, h3, h4] <;> omega, rfl⟩
      · have g2 : ((n : Int) == 34) = false := by simp <;> omega
        by_cases h4 : n = 59
        · have g3 : ((n : Int) == 59) = true := by simp <;> omega
          have hv2 := Lib.hid hv
          clear hv
          go_enter Tryz.func94, Tryz.ntmps94
          go_wp2_with fail
          go_ret
          exact ⟨by rw [← hv2.out]; simp [h1, h2, h3, h4] <;> omega, rfl⟩
        · have g3 : ((n : Int) == 59) = false := by simp <;> omega
          have hv2 := Lib.hid hv
          clear hv
          go_enter Tryz.func94, Tryz.ntmps94
          go_wp2_with fail
          go_ret
          exact ⟨by rw [← hv2.out]; simp [h1, h2, h3, h4] <;> omega, rfl⟩
end Go.Proofs.YtgkjcapoddjkhaaGreatDoor
