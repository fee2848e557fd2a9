/-
  Chapter 8's log in plain Lean: read from the lines of a source.
-/
import Derived.Test.YtgkjcapoddjkhaaGreatDoorFldP
import Derived.Test.YtgkjcapoddjkhaaGreatDoorEvL
set_option linter.unusedSimpArgs false
set_option linter.unusedVariables false
namespace Go.Proofs.YtgkjcapoddjkhaaGreatDoor
open Go.RowKit
/-! Chapter 8's log. -/
def joinF (fs : List Fld) : List UInt8 × Bool := if fs.any (·.quoted) then ([], false) else (joinS (fs.map (·.text)), true)
def ParP (s : List UInt8) : Ev × Int := parE (guessE (splitC 32 s)) s
def colL (x : Lin) : Int := match x.fs with
  | [] => 0
  | f :: _ => f.col
def plStep (a : List Ev × List Dg) (x : Lin) : List Ev × List Dg :=
  if (joinF x.fs).2 = false ∨ (ParP (joinF x.fs).1).2 ≠ 0 then (if a.2.length < 50 then (a.1, a.2 ++ [⟨x.num, colL x, 4⟩]) else a)
  else (a.1 ++ [(ParP (joinF x.fs).1).1], a.2)
def ParLogP (src : List UInt8) : List Ev × List Dg :=
  if (splitP src).2 ≠ [] then ([], (splitP src).2)
  else if ((splitP src).1.foldl plStep ([], [])).2 ≠ [] then ([], ((splitP src).1.foldl plStep ([], [])).2)
  else if 4000 < ((splitP src).1.foldl plStep ([], [])).1.length then ([], [⟨1, 1, 9⟩])
  else (((splitP src).1.foldl plStep ([], [])).1, [])
/-- The chapter's example. -/
def exLog : List UInt8 := [84, 79, 83, 83, 32, 49, 32, 66, 65, 84, 10, 80, 76, 65, 89, 10]
theorem exLog_is : ParLogP exLog = ([], [⟨2, 1, 4⟩]) := by decide +kernel
end Go.Proofs.YtgkjcapoddjkhaaGreatDoor
