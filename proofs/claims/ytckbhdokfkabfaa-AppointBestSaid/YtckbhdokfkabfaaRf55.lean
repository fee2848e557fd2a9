/-
  Chapter 55: what Refutes answers.
-/
import Derived.Test.YtckbhdokfkabfaaIx55
import Derived.Test.YtckbhdokfkabfaaAps55
set_option linter.unusedSimpArgs false
set_option linter.unusedVariables false
namespace Go.Proofs.Ytckbhdokfkabfaa
open Go.RowKit
def thenR (a b : Int) : Int := if a = 0 then b else a
theorem thenR_zero (b : Int) : thenR 0 b = b := rfl
theorem thenR_ne {a b : Int} (h : a ≠ 0) : thenR a b = a := if_neg h
def badN (N : List Int) (k : Nat) : Int := match N[k]? with
  | some n => if befN N k n = true then 1 else 0
  | none => 0
def kof (M : List Dty) (n : Int) : Int := fidx (fun x : Dty => x.m == n) M
def nfN (M : List Dty) (N : List Int) (k : Nat) : Int := match N[k]? with
  | some n => if kof M n < 0 then 6 else 0
  | none => 0
def dat (M : List Dty) (n : Int) : Dty := match M[(kof M n).toNat]? with
  | some x => x
  | none => ⟨0, 0, ⟨#[]⟩, ⟨#[]⟩⟩
def setN (M : List Dty) (N : List Int) : List Dty := N.map (dat M)
def tmN (S : List Dty) (k : Nat) : Int := match S[k]?, S[0]? with
  | some x, some y => if x.d = y.d then 0 else 15
  | _, _ => 0
def ableF (S : List Dty) (U : List Ump) : Nat := U.countP fun y => S.any fun x => mayB x y
def rf5 (S : List Dty) (U : List Ump) : Int := if 2 * S.length ≤ ableF S U then 11 else 0
def rf4 (S : List Dty) (U : List Ump) : Int := thenR (resW (tmN S) (scan (tmN S) S.length)) (rf5 S U)
def rf3 (M : List Dty) (U : List Ump) (N : List Int) : Int := thenR (resW (nfN M N) (scan (nfN M N) N.length)) (rf4 (setN M N) U)
def rf2 (M : List Dty) (U : List Ump) (N : List Int) : Int := thenR (resW (badN N) (scan (badN N) N.length)) (rf3 M U N)
def rf1 (M : List Dty) (U : List Ump) (N : List Int) : Int := if N.length = 0 then 1 else rf2 M U N
def refF (M : List Dty) (U : List Ump) (N : List Int) : Int := thenR (ckA M U) (rf1 M U N)
theorem res_then {f : Nat → Int} {n k : Nat} {b : Int} (hno : ∀ j, j < k → f j = 0) (hk : k < n) (he : f k ≠ 0) : thenR (resW f (scan f n)) b = f k := by
  rw [res_of hno hk he, thenR_ne he]
theorem res_done {f : Nat → Int} {n : Nat} {b : Int} (hno : ∀ j, j < n → f j = 0) : thenR (resW f (scan f n)) b = b := by
  rw [res_end hno, thenR_zero]
theorem kof_at {M : List Dty} {n : Int} (h : ¬ kof M n < 0) : ∃ (i : Nat), kof M n = i ∧ M[i]? = some (dat M n) := by
  obtain ⟨i, x, h1, h2, _⟩ := fidx_at (show 0 ≤ fidx (fun x : Dty => x.m == n) M by unfold kof at h; omega)
  have h3 : kof M n = i := h1
  refine ⟨i, h3, ?_⟩
  unfold dat
  rw [h3]
  simp only [Int.toNat_natCast]
  rw [h2]
theorem setN_len (M : List Dty) (N : List Int) : (setN M N).length = N.length := by simp [setN]
theorem setN_at {M : List Dty} {N : List Int} {k : Nat} {n : Int} (h : N[k]? = some n) : (setN M N)[k]? = some (dat M n) := by simp [setN, h]
theorem setN_next {M : List Dty} {N : List Int} {k : Nat} {n : Int} (h : N[k]? = some n) : setN M (N.take (k + 1)) = setN M (N.take k) ++ [dat M n] := by
  rw [List.take_add_one, h, Option.toList]
  simp [setN]
theorem nf_of {M : List Dty} {N : List Int} {k : Nat} {n : Int} (h : N[k]? = some n) : nfN M N k = if kof M n < 0 then 6 else 0 := by simp [nfN, h]
theorem able_next {S : List Dty} {U : List Ump} {k : Nat} {y : Ump} (h : U[k]? = some y) : ableF S (U.take (k + 1)) = ableF S (U.take k) + (if (S.any fun x => mayB x y) = true then 1 else 0) := by
  rw [List.take_add_one, h, Option.toList]
  simp [ableF, List.countP_append]
theorem able_le (S : List Dty) (U : List Ump) : ableF S U ≤ U.length := List.countP_le_length
end Go.Proofs.Ytckbhdokfkabfaa
