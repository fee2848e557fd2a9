/-
  Numerals as strings, in plain Lean.
-/
import Derived.Test.YtdbiihfoafoljaaGreatDoorOvP
import Derived.Test.YtdbiihfoafoljaaGreatDoorBase
set_option linter.unusedSimpArgs false
set_option linter.unusedVariables false
namespace Go.Proofs.YtdbiihfoafoljaaGreatDoor
open Go.RowKit
def dcB (n : Int) : List UInt8 := Lib.decDigits n.toNat
def dcA (n : Int) : ByteArray := ⟨(dcB n).toArray⟩
theorem decDigits_len20 {u : Nat} (h : u < 10000000000000) : (Lib.decDigits u).length ≤ 13 := by
  have key : ∀ (n : Nat) (u : Nat), u < 10 ^ (n + 1) → (Lib.decDigits u).length ≤ n + 1 := by
    intro n
    induction n with
    | zero => intro u hu; rw [decDigits_small (by simpa using hu)]; simp
    | succ n ih =>
      intro u hu
      by_cases h : u < 10
      · rw [decDigits_small h]; simp
      · rw [decDigits_big h, List.length_append]
        have := ih (u / 10) (by rw [Nat.pow_succ] at hu; omega)
        simp; omega
  exact key 12 u h
theorem dcB_len {n : Int} (h : n ≤ 1099511627776) : (dcB n).length ≤ 13 := decDigits_len20 (by omega)
theorem dcB_len7 {n : Int} (h : n ≤ 1000000) : (dcB n).length ≤ 7 := by
  have key : ∀ (n : Nat) (u : Nat), u < 10 ^ (n + 1) → (Lib.decDigits u).length ≤ n + 1 := by
    intro n
    induction n with
    | zero => intro u hu; rw [decDigits_small (by simpa using hu)]; simp
    | succ n ih =>
      intro u hu
      by_cases h : u < 10
      · rw [decDigits_small h]; simp
      · rw [decDigits_big h, List.length_append]
        have := ih (u / 10) (by rw [Nat.pow_succ] at hu; omega)
        simp; omega
  exact key 6 n.toNat (by omega)
theorem mk_size (l : List UInt8) : (⟨l.toArray⟩ : ByteArray).size = l.length := by show l.toArray.size = _; simp
theorem numP_dc {n lo hi : Int} (h0 : 0 ≤ n) (h1 : lo ≤ n) (h2 : n ≤ hi) : numP (dcB n) lo hi = (n, 0) := by
  obtain ⟨u, rfl⟩ : ∃ u : Nat, n = u := ⟨n.toNat, by omega⟩
  unfold dcB
  rw [Int.toNat_natCast]
  exact numP_dec h1 h2
def baT (x : List UInt8) : ByteArray := ⟨x.toArray⟩
theorem baT_list (x : List UInt8) : (baT x).data.toList = x := by simp [baT]
theorem baT_size (x : List UInt8) : (baT x).size = x.length := by show x.toArray.size = _; simp
end Go.Proofs.YtdbiihfoafoljaaGreatDoor
