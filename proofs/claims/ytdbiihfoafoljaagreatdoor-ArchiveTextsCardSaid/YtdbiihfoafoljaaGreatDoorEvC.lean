/-
  Chapter 8: the forms of lines, what a kind uses, the bounds: of the program.
-/
import Derived.Test.YtdbiihfoafoljaaGreatDoorNotS
import Derived.Test.YtdbiihfoafoljaaGreatDoorLibE
import Derived.Test.YtdbiihfoafoljaaGreatDoorName
import Derived.Test.YtdbiihfoafoljaaGreatDoorEvL
import Derived.Test.YtdbiihfoafoljaaGreatDoorStr
import Derived.Test.YtdbiihfoafoljaaGreatDoorApp
import Derived.LoopTactic
set_option linter.unusedSimpArgs false
set_option linter.unusedVariables false
namespace Go.Proofs.YtdbiihfoafoljaaGreatDoor
open Go.RowKit
set_option maxRecDepth 100000
set_option maxHeartbeats 4000000
theorem u8_eq (c d : UInt8) : (c == d) = decide (c.toNat = d.toNat) := by
  rw [Bool.eq_iff_iff]
  simp only [beq_iff_eq, decide_eq_true_eq]
  exact ⟨fun h => by rw [h], fun h => UInt8.toNat.inj h⟩
def fmE (n : Nat) : List Value := [.string (sA (wordT.getD n [])), .string (sA (fldsT.getD n [])), .string (sA (yesT.getD n [])), .string (sA (noT.getD n []))]
def fmL : List Value := (List.range 16).flatMap fmE
theorem forms_p (w : World) : Calls Tryz.prog 43 #[] w fun e w' => e = .returned (.slice (some ⟨w.heap.size, 0, none⟩) 16 16) ∧ w' = w.alloc (.cells fmL.toArray 91) := by
  go_enter Tryz.func43, Tryz.ntmps43
  go_wp2_with (fail)
  go_ret
  exact ⟨rfl, rfl⟩
theorem fm_at {n j : Nat} (hn : n < 16) (hj : j < 4) : fmL[n * 4 + j]? = (fmE n)[j]? := by
  have : ∀ n, n < 16 → ∀ j, j < 4 → fmL[n * 4 + j]? = (fmE n)[j]? := by
    intro n hn j hj
    rcases (by omega : n = 0 ∨ n = 1 ∨ n = 2 ∨ n = 3 ∨ n = 4 ∨ n = 5 ∨ n = 6 ∨ n = 7 ∨ n = 8 ∨ n = 9 ∨ n = 10 ∨ n = 11 ∨ n = 12 ∨ n = 13 ∨ n = 14 ∨ n = 15) with rfl | rfl | rfl | rfl | rfl | rfl | rfl | rfl | rfl | rfl | rfl | rfl | rfl | rfl | rfl | rfl <;> rcases (by omega : j = 0 ∨ j = 1 ∨ j = 2 ∨ j = 3) with rfl | rfl | rfl | rfl <;> rfl
  exact this n hn j hj
theorem between_p (n lo hi : Int) (v : Bool) (w : World) (hv : btw n lo hi = v) : Calls Tryz.prog 39 #[.int .i64 n, .int .i64 lo, .int .i64 hi] w fun e w' => e = .returned (.bool v) ∧ w = w' := by
  subst hv
  unfold btw
  by_cases h1 : lo ≤ n
  · by_cases h2 : n ≤ hi
    · go_enter Tryz.func39, Tryz.ntmps39
      go_wp2_with fail
      go_ret
      simp [h1, h2]
    · go_enter Tryz.func39, Tryz.ntmps39
      go_wp2_with fail
      go_ret
      simp [h1, h2]
  · go_enter Tryz.func39, Tryz.ntmps39
    go_wp2_with fail
    go_ret
    simp
    omega
theorem bounds_p (k : Int) (w : World) : Calls Tryz.prog 38 #[.int .u8 k] w fun e w' => e = .returned (.tuple #[.int .i64 (loR k), .int .i64 (hiR k)]) ∧ w = w' := by
  unfold loR hiR
  by_cases h7 : k = 7
  · subst h7
    go_enter Tryz.func38, Tryz.ntmps38
    go_wp2_with fail
    go_ret2
    exact ⟨rfl, rfl⟩
  have g1 : (k == 7) = false := by simpa using h7
  by_cases h13 : k = 13
  · subst h13
    go_enter Tryz.func38, Tryz.ntmps38
    go_wp2_with fail
    go_ret2
    exact ⟨rfl, rfl⟩
  · have g2 : (k == 13) = false := by simpa using h13
    go_enter Tryz.func38, Tryz.ntmps38
    go_wp2_with fail
    go_ret2
    exact ⟨rfl, rfl⟩
theorem indexByte_at (c : UInt8) : ∀ l : List UInt8, Lib.indexByte l c = match atB c l with | some i => (i : Int) | none => -1
  | [] => rfl
  | x :: r => by
    have ih := indexByte_at c r
    unfold Lib.indexByte atB
    by_cases h : x = c
    · simp [h]
    · rw [if_neg (by simpa using h), if_neg h, ih]
      cases atB c r with
      | none => simp
      | some i => simp <;> omega
theorem atB_mem (c : UInt8) : ∀ l : List UInt8, (atB c l).isSome = l.contains c
  | [] => rfl
  | x :: r => by
    have ih := atB_mem c r
    unfold atB
    by_cases h : x = c
    · simp [h]
    · simp only [h, if_false, List.contains_cons]
      rw [show (c == x) = false by simpa using fun e => h e.symm, Bool.false_or, ← ih]
      cases atB c r <;> rfl
theorem sA_data (l : List UInt8) : (sA l).data.toList = l := rfl
theorem ib_mem (c : UInt8) : ∀ l : List UInt8, decide (0 ≤ Lib.indexByte l c) = l.contains c := by
  intro l
  rw [indexByte_at, ← atB_mem]
  cases atB c l <;> simp
theorem wrap8s {n : Nat} (h : n < 16) : IntKind.u8.wrap ((n : Int) + 1 - 1) = n := by
  show (((n : Int) + 1 - 1) % 256) = _
  omega
theorem uses_p (n : Nat) (hn : n < 16) (c : UInt8) (w : World) : Calls Tryz.prog 40 #[.int .u8 ((n : Int) + 1), .int .u8 c.toNat] w fun e w' => e = .returned (.bool (usesB ((n : Int) + 1) c)) ∧ Below w.heap.size w w' := by
  obtain ⟨v, hv⟩ : ∃ v, usesB ((n : Int) + 1) c = v := ⟨_, rfl⟩
  rw [hv]
  have hv1 : ((fldsT.getD n []).contains c || ((n : Int) + 1 == 5 && decide (c.toNat = 121))) = v := by
    rw [← hv]
    unfold usesB fldsL
    rw [show ((n : Int) + 1 - 1).toNat = n by omega, u8_eq]
    rfl
  have HV := Lib.hid hv1
  clear hv hv1
  go_enter Tryz.func40, Tryz.ntmps40
  go_wp2_with (fail)
  refine (forms_p w).mono ?_
  rintro e w1 ⟨rfl, hw1⟩
  have hb := Blk.new w 91 fmL
  rw [← hw1] at hb
  have hB : Below w.heap.size w w1 := by rw [hw1]; exact cur_new _ _
  obtain ⟨sf, hsf⟩ : ∃ y, sA (fldsT.getD n []) = y := ⟨_, rfl⟩
  have d1 : w1.cell? ⟨w.heap.size, n * 4 + 1, none⟩ = some (.string sf) := by rw [← hsf]; exact (hb.cell (n * 4 + 1)).trans (fm_at hn (by decide))
  have HSF := Lib.hid hsf
  clear hsf
  have HB := Lib.hid hB
  clear hw1 hb hB
  have hw8 := wrap8s hn
  go_wp2_with (fail)
  refine (Tryz.ib_p sf c.toNat w1).mono ?_
  rintro e w2 ⟨rfl, rfl⟩
  have hi : decide (0 ≤ Lib.indexByte sf.data.toList ((c.toNat : Int).toNat.toUInt8)) = (fldsT.getD n []).contains c := by
    rw [← HSF.out, sA_data, show ((c.toNat : Int).toNat.toUInt8) = c from UInt8.ofNat_toNat, ib_mem]
  obtain ⟨ix, hix⟩ : ∃ y, Lib.indexByte sf.data.toList ((c.toNat : Int).toNat.toUInt8) = y := ⟨_, rfl⟩
  rw [hix] at hi ⊢
  clear hix
  cases hc : (fldsT.getD n []).contains c with
  | true =>
    rw [hc] at hi HV
    have hix : 0 ≤ ix := by simpa using hi
    go_wp2_with (fail)
    go_ret
    exact ⟨by rw [← HV.out]; rfl, HB.out⟩
  | false =>
    rw [hc] at hi HV
    have hix : ix < 0 := by simpa using hi
    by_cases h5 : n = 4
    · subst h5
      by_cases h121 : c.toNat = 121
      · have g1 : ((c.toNat : Int) == 121) = true := by rw [h121]; rfl
        have HV2 := Lib.hid (show v = true by rw [← HV.out, h121]; rfl)
        clear h121
        go_wp2_with (fail)
        go_ret
        exact ⟨by rw [HV2.out]; rfl, HB.out⟩
      · have g1 : ((c.toNat : Int) == 121) = false := by simp; omega
        have HV2 := Lib.hid (show v = false by rw [← HV.out]; simp [h121])
        clear h121
        go_wp2_with (fail)
        go_ret
        exact ⟨by rw [HV2.out]; rfl, HB.out⟩
    · have g1 : ((n : Int) + 1 == 5) = false := by simp; omega
      have HV2 := Lib.hid (show v = false by rw [← HV.out, g1]; rfl)
      clear h5
      go_wp2_with (fail)
      go_ret
      exact ⟨by rw [HV2.out]; rfl, HB.out⟩
end Go.Proofs.YtdbiihfoafoljaaGreatDoor
