/-
  Chapter 54: list of the law.
-/
import Derived.Test.YtomjgjfhgjblbaaAwk54
namespace Go.Proofs.Ytomjgjfhgjblbaa
open Go.RowKit
set_option maxRecDepth 100000
set_option maxHeartbeats 1000000
theorem list_f (A : Option Addr) (c n : Nat) (w : World) (hn : n ≤ 9223372036854775807) (hc : n ≤ c) :
    Calls Try.prog 5 #[.slice A n c] w fun e w' => e = .returned (.slice A (min n 16) c) ∧ Below w.heap.size w w' := by
  by_cases h : n ≤ 16
  · rw [Nat.min_eq_left h]
    go_enter Try.func5, Try.ntmps5
    go_wp2_with fail
    all_goals go_wp2_with fail
    all_goals
      go_ret
      exact ⟨rfl, Below.refl _ _⟩
  · rw [Nat.min_eq_right (by omega)]
    go_enter Try.func5, Try.ntmps5
    go_wp2_with fail
    all_goals go_wp2_with fail
    all_goals
      go_ret
      exact ⟨rfl, Below.refl _ _⟩
end Go.Proofs.Ytomjgjfhgjblbaa
