/-
  Chapter 3's lines in plain Lean: quoted strings, fields, the lines of a source.
-/
import Derived.Test.YtgkjcapoddjkhaaGreatDoorBase
import Derived.Test.YtgkjcapoddjkhaaGreatDoorSplP
set_option linter.unusedSimpArgs false
set_option linter.unusedVariables false
namespace Go.Proofs.YtgkjcapoddjkhaaGreatDoor
open Go.RowKit
structure Fld where
  text : List UInt8
  col : Int
  quoted : Bool
  deriving DecidableEq
structure Lin where
  num : Int
  fs : List Fld
  deriving DecidableEq
structure Dg where
  line : Int
  col : Int
  code : Int
  deriving DecidableEq
def whiteC (c : UInt8) : Bool := c == 9 || c == 32
def printC (c : UInt8) : Bool := decide (32 ≤ c) && decide (c ≤ 126)
def wordC (c : UInt8) : Bool := decide (32 < c) && decide (c ≤ 126) && c != 34 && c != 59
/-- The quoted string whose text goes on at index j: the text, the index behind it, true; or the index of the byte that is not accepted. -/
def quoL : Nat → List UInt8 → List UInt8 → List UInt8 × Nat × Bool
  | j, _, [] => ([], j, false)
  | j, acc, [c] => if c = 34 then (acc, j + 1, true) else if printC c then ([], j + 1, false) else ([], j, false)
  | j, acc, c :: d :: r =>
    if c = 34 then (if d = 34 then quoL (j + 2) (acc ++ [34]) r else (acc, j + 1, true))
    else if printC c then quoL (j + 1) (acc ++ [c]) (d :: r) else ([], j, false)
def fldF : Nat → Nat → Bool → List Fld → List UInt8 → List Fld × Int
  | 0, _, _, acc, _ => (acc, 0)
  | _ + 1, _, _, acc, [] => (acc, 0)
  | n + 1, i, aft, acc, c :: r =>
    if whiteC c then fldF n (i + 1) false acc r
    else if c = 59 then (acc, 0)
    else if aft then ([], (i : Int) + 1)
    else if c = 34 then
      let q := quoL (i + 1) [] r
      if q.2.2 then fldF n q.2.1 true (acc ++ [⟨q.1, (i : Int) + 1, true⟩]) ((c :: r).drop (q.2.1 - i)) else ([], (q.2.1 : Int) + 1)
    else
      let k := ((c :: r).takeWhile wordC).length
      if k = 0 ∨ ((c :: r).drop k).head? = some 34 then ([], ((i + k : Nat) : Int) + 1)
      else fldF n (i + k) false (acc ++ [⟨(c :: r).take k, (i : Int) + 1, false⟩]) ((c :: r).drop k)
def fieldsP (s : List UInt8) : List Fld × Int := fldF (s.length + 1) 0 false [] s
/-- A line's fields, the column of its error (0: none), the error's number. -/
def linP (s : List UInt8) : List Fld × Int × Int := if s.length ≤ 1000 then ((fieldsP s).1, (fieldsP s).2, 4) else ([], 1001, 9)
def splStep (a : List Lin × List Dg) (i : Nat) (s : List UInt8) : List Lin × List Dg :=
  if 0 < (linP s).2.1 ∧ a.2.length < 50 then (a.1, a.2 ++ [⟨(i : Int) + 1, (linP s).2.1, (linP s).2.2⟩])
  else if (linP s).2.1 = 0 ∧ 0 < (linP s).1.length then (a.1 ++ [⟨(i : Int) + 1, (linP s).1⟩], a.2) else a
def splF : Nat → List Lin × List Dg → List (List UInt8) → List Lin × List Dg
  | _, a, [] => a
  | i, a, s :: r => splF (i + 1) (splStep a i s) r
def splitP (src : List UInt8) : List Lin × List Dg := if 262144 < src.length then ([], [⟨1, 1, 9⟩]) else splF 0 ([], []) (splitC 10 src)
theorem splF_snoc : ∀ (l : List (List UInt8)) (i : Nat) (a : List Lin × List Dg) (s : List UInt8), splF i a (l ++ [s]) = splStep (splF i a l) (i + l.length) s
  | [], i, a, s => rfl
  | x :: l, i, a, s => by
    show splF (i + 1) (splStep a i x) (l ++ [s]) = _
    rw [splF_snoc l]
    show splStep (splF (i + 1) (splStep a i x) l) _ s = splStep (splF (i + 1) (splStep a i x) l) _ s
    rw [List.length_cons]
    congr 1
    omega
end Go.Proofs.YtgkjcapoddjkhaaGreatDoor
