/-
  Chapter 54: texts of registers, in plain Lean.
-/
import Derived.Test.YtpninpohligomaaGreatDoorSpec54
import Derived.Test.YtpninpohligomaaGreatDoorDecP
import Derived.Test.YtpninpohligomaaGreatDoorTokP
set_option linter.unusedSimpArgs false
set_option linter.unusedVariables false
namespace Go.Proofs.YtpninpohligomaaGreatDoor
open Go.RowKit
def sWIN : List UInt8 := [87, 73, 78, 68, 79, 87]
def sJOIN : List UInt8 := [74, 79, 73, 78]
def sLEAVE : List UInt8 := [76, 69, 65, 86, 69]
/-- Rows without their ends. -/
def rowW (x : Wn) : List UInt8 := sWIN ++ 32 :: (dcB x.f ++ 32 :: dcB x.t)
def rowT (z : Tr) : List UInt8 := if isE z.t then sLEAVE ++ 32 :: (z.p.data.toList ++ 32 :: dcB z.d) else sJOIN ++ 32 :: (z.p.data.toList ++ 32 :: (z.t.data.toList ++ 32 :: dcB z.d))
def endR (R : List (List UInt8)) : List UInt8 := R.flatMap fun r => r ++ [10]
def txtW (ws : List Wn) : List UInt8 := endR (ws.map rowW)
def txtT (l : List Tr) : List UInt8 := endR (l.map rowT)
def TxtT (ws : List Wn) (l : List Tr) : List UInt8 × Int := if (ckT ws l).2 ≠ 0 then ([], (ckT ws l).2) else (txtW ws ++ txtT l, 0)
theorem endR_append (a b : List (List UInt8)) : endR (a ++ b) = endR a ++ endR b := by unfold endR; rw [List.flatMap_append]
theorem endR_one (r : List UInt8) : endR [r] = r ++ [10] := by simp [endR]
theorem txtW_take {l : List Wn} {k : Nat} {z : Wn} (h : l[k]? = some z) : txtW (l.take (k + 1)) = txtW (l.take k) ++ (rowW z ++ [10]) := by
  unfold txtW
  rw [List.take_add_one, h, List.map_append, endR_append]
  show _ ++ endR [rowW z] = _
  rw [endR_one]
theorem txtT_take {l : List Tr} {k : Nat} {z : Tr} (h : l[k]? = some z) : txtT (l.take (k + 1)) = txtT (l.take k) ++ (rowT z ++ [10]) := by
  unfold txtT
  rw [List.take_add_one, h, List.map_append, endR_append]
  show _ ++ endR [rowT z] = _
  rw [endR_one]
/-- What holds of each entry of a good register. -/
def okW (x : Wn) : Prop := (0 ≤ x.f ∧ x.f ≤ 1000000) ∧ 0 ≤ x.t ∧ x.t ≤ 1000000
def okT (z : Tr) : Prop := nameB z.p = true ∧ (isE z.t = true ∨ nameB z.t = true) ∧ 0 ≤ z.d ∧ z.d ≤ 1000000
theorem isDay_rng {n : Int} (h : isDayB n = true) : 0 ≤ n ∧ n ≤ 1000000 := by unfold isDayB at h; simp at h; omega
theorem splitC_small (c : UInt8) : ∀ (l : List UInt8), (∀ x ∈ splitC c l, x.length ≤ l.length) ∧ (splitC c l).length ≤ l.length + 1
  | [] => by simp [splitC]
  | x :: r => by
    obtain ⟨h1, h2⟩ := splitC_small c r
    by_cases hx : x = c
    · rw [splitC, if_pos hx]
      refine ⟨fun y hy => ?_, by simp; omega⟩
      rcases List.mem_cons.1 hy with rfl | hy
      · simp
      · have := h1 y hy; simp; omega
    · rw [splitC, if_neg hx]
      cases hs : splitC c r with
      | nil => exact absurd hs (splitC_ne c r)
      | cons a b =>
        rw [hs] at h1 h2
        simp only []
        refine ⟨fun y hy => ?_, by simp at h2 ⊢; omega⟩
        rcases List.mem_cons.1 hy with rfl | hy
        · have := h1 a List.mem_cons_self; simp; omega
        · have := h1 y (List.mem_cons_of_mem _ hy); simp; omega
end Go.Proofs.YtpninpohligomaaGreatDoor
