/-
  strings.Lines, strings.TrimSuffix, strings.Split as chapter 54's Parse calls them.
-/
import Derived.Test.YtpninpohligomaaGreatDoorLines
import Derived.Test.YtpninpohligomaaGreatDoorNumT
import Derived.Test.YtpninpohligomaaGreatDoorOwn3
import Derived.Test.YtpninpohligomaaGreatDoorRnd
set_option linter.unusedSimpArgs false
set_option linter.unusedVariables false
namespace Go.Proofs.YtpninpohligomaaGreatDoor
open Go.RowKit
set_option maxRecDepth 100000
set_option maxHeartbeats 1000000
theorem Tryz.lines_p (s : ByteArray) (w : World) : Calls Tryz.prog 33 #[.string s] w fun e w' => e = .returned (.func (.func 56) #[] #[.pointer (some ⟨w.heap.size, 0, none⟩)]) ∧ w' = w.alloc (.cells #[.string s] 9) := by
  go_enter Tryz.func33, Tryz.ntmps33
  go_wp2_with fail
  go_ret
  exact ⟨rfl, rfl⟩
theorem trimSuffix_ten (l : List UInt8) : Lib.trimSuffix l [10] = trimL l := by
  unfold Lib.trimSuffix Lib.hasSuffix trimL
  by_cases h : l.getLast? = some 10
  · have h1 : [10] <:+ l := by
      obtain ⟨a, ha⟩ := List.getLast?_eq_some_iff.1 h
      exact ⟨a, ha.symm⟩
    rw [if_pos h, if_pos (List.isSuffixOf_iff_suffix.2 h1), List.dropLast_eq_take]; rfl
  · rw [if_neg h, if_neg]
    intro e
    obtain ⟨a, ha⟩ := List.isSuffixOf_iff_suffix.1 e
    exact h (by rw [← ha]; simp)
theorem Tryz.ts10 (s : ByteArray) (w : World) (hs : s.size ≤ 9223372036854775807) :
    Calls Tryz.prog 35 #[.string s, .string ⟨#[10]⟩] w fun e w' => e = .returned (.string (baT (trimL s.data.toList))) ∧ w = w' :=
  (Tryz.ts_p s ⟨#[10]⟩ w hs).mono fun _ _ ⟨h1, h2⟩ => ⟨by rw [h1, show (⟨#[10]⟩ : ByteArray).data.toList = [10] from rfl, trimSuffix_ten]; rfl, h2⟩
theorem flat_st (l : List ByteArray) : l.flatMap stE = l.map Value.string := by
  induction l with
  | nil => rfl
  | cons x r ih => rw [List.flatMap_cons, ih]; rfl
theorem Tryz.split32 (r : List UInt8) (hr : r.length ≤ 1000) (w : World) (hw : LibW w) :
    Calls Tryz.prog 34 #[.string (baT r), .string ⟨#[32]⟩] w fun e w' => ∃ v, e = .returned v ∧ OwnL stE 1 9 w.heap.size w' v (splS 32 r) ∧ Below w.heap.size w w' := by
  obtain ⟨m, hm⟩ := hw.maxlen
  have hl := splS_len 32 (baT r)
  have hm2 := splS_map 32 (baT r)
  rw [baT_list] at hl hm2
  refine (Tryz.split_p (baT r) ⟨#[32]⟩ m w (by rw [baT_size]; omega) hm (by decide)).mono ?_
  rintro e w' ⟨rfl, rfl⟩
  rw [hm2, ← hl]
  have h3 : (splS 32 r).length ≤ 1001 := by rw [splS_length]; have := (splitC_small 32 r).2; omega
  refine ⟨_, rfl, ⟨?_, .inr ⟨w.heap.size, _, _, rfl, Nat.le_refl _, heap_alloc_new w _, Nat.le_refl _, by unfold maxLen; omega, ?_, ?_⟩⟩, cur_new w _⟩
  · rw [flat_st]; simp
  · simp
  · rw [flat_st]; simp; exact List.take_of_length_le (by simp)
end Go.Proofs.YtpninpohligomaaGreatDoor
