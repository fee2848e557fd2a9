/-
  Chapter 55: what Accept answers.
-/
import Derived.Test.YtckbhdokfkabfaaEqf55
set_option linter.unusedSimpArgs false
set_option linter.unusedVariables false
namespace Go.Proofs.Ytckbhdokfkabfaa
open Go.RowKit
def stN (M : List Dty) (L : List Apd) (d : Int) (s : ByteArray) (j : Nat) : Bool := match M[j]?, L[j]? with
  | some x, some z => x.d == d && (seq z.one s || seq z.two s)
  | _, _ => false
/-- An umpire of that name stands on that day in one of the first k matches. -/
def takB (M : List Dty) (L : List Apd) (k : Nat) (d : Int) (s : ByteArray) : Bool := (List.range k).any (stN M L d s)
def mayAt (U : List Ump) (i : Int) (x : Dty) : Bool := match U[i.toNat]? with
  | some y => mayB x y
  | none => false
def acE (M : List Dty) (U : List Ump) (L : List Apd) (k : Nat) (x : Dty) (z : Apd) : Int :=
  if (decide (fnd U z.one < 0) || decide (fnd U z.two < 0)) = true then 6
  else if slt z.one z.two = false then 8
  else if (!mayAt U (fnd U z.one) x || !mayAt U (fnd U z.two) x) = true then 13
  else if (takB M L k x.d z.one || takB M L k x.d z.two) = true then 7 else 0
def acN (M : List Dty) (U : List Ump) (L : List Apd) (k : Nat) : Int := match M[k]?, L[k]? with
  | some x, some z => acE M U L k x z
  | _, _ => 0
def acR (M : List Dty) (U : List Ump) (L : List Apd) : Int := resW (acN M U L) (scan (acN M U L) L.length)
def accF (M : List Dty) (U : List Ump) (L : List Apd) : Int := thenR (ckA M U) (if eqM M L = false then 1 else acR M U L)
theorem acN_at {M : List Dty} {U : List Ump} {L : List Apd} {k : Nat} {x : Dty} {z : Apd} (hx : M[k]? = some x) (hz : L[k]? = some z) : acN M U L k = acE M U L k x z := by
  unfold acN
  rw [hx, hz]
theorem seq_comm (a b : ByteArray) : seq a b = seq b a := by
  cases h : seq a b
  · cases h2 : seq b a
    · rfl
    · rw [seq_eq.1 h2, show seq a a = true from seq_eq.2 rfl] at h
      cases h
  · rw [seq_eq.1 h]
    exact (seq_eq.2 rfl).symm
theorem tak_next {M : List Dty} {L : List Apd} {k : Nat} {x : Dty} {z : Apd} (hx : M[k]? = some x) (hz : L[k]? = some z) (d : Int) (s : ByteArray) : takB M L (k + 1) d s = (takB M L k d s || (x.d == d && (seq z.one s || seq z.two s))) := by
  unfold takB
  rw [List.range_succ, List.any_append]
  simp [stN, hx, hz]
theorem tak_zero (M : List Dty) (L : List Apd) (d : Int) (s : ByteArray) : takB M L 0 d s = false := rfl
theorem fnd_at {U : List Ump} {s : ByteArray} (h : ¬ fnd U s < 0) : ∃ (k : Nat) (y : Ump), fnd U s = k ∧ U[k]? = some y ∧ seq y.nm s = true := fidx_at (show 0 ≤ fidx (fun y : Ump => seq y.nm s) U by unfold fnd at h; omega)
theorem may_of {U : List Ump} {k : Nat} {y : Ump} (h : U[k]? = some y) (x : Dty) : mayAt U k x = mayB x y := by
  unfold mayAt
  rw [Int.toNat_natCast, h]
theorem ac_of {M : List Dty} {U : List Ump} {L : List Apd} {k : Nat} {r : Int} (hno : ∀ j, j < k → acN M U L j = 0) (hk : k < L.length) (he : acN M U L k ≠ 0) (h : acR M U L = r) : acN M U L k = r := by
  rw [← h]
  unfold acR
  rw [res_of hno hk he]
theorem ac_end {M : List Dty} {U : List Ump} {L : List Apd} {r : Int} (hno : ∀ j, j < L.length → acN M U L j = 0) (h : acR M U L = r) : 0 = r := by
  rw [← h]
  unfold acR
  rw [res_end hno]
end Go.Proofs.Ytckbhdokfkabfaa
