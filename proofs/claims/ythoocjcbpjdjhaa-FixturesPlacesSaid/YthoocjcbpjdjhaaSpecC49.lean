/-
  Chapter 49: checking placed fixtures.
-/
import Derived.Test.YthoocjcbpjdjhaaSpecP49
namespace Go.Proofs.Ythoocjcbpjdjhaa
open Go.RowKit

def closeL (y : Int) (p q : Pf) : Bool := (playsL q.f p.f.h || playsL q.f p.f.a) && decide (max (p.d - q.d) (q.d - p.d) ≤ y)
/-- The first error of p behind the placed ones 'pre'; 0: none. -/
def chkOne (x y : Int) (gr : List Int) (pre : List Pf) (p : Pf) : Int :=
  if knownL p.f gr.length = false ∨ p.g ≠ grAt gr p.f.h then 1 else if p.d < x ∨ 109572 < p.d then 2 else if takenL pre p.g p.d then 13 else if pre.any (closeL y p) then 15 else 0
def chkFrom (x y : Int) (gr : List Int) : List Pf → List Pf → Int × Int
  | _, [] => (-1, 0)
  | pre, p :: ps => if chkOne x y gr pre p = 0 then chkFrom x y gr (pre ++ [p]) ps else (pre.length, chkOne x y gr pre p)
def chkAll (l : List Pf) (x y : Int) (gr : List Int) : Int × Int :=
  if seasonL l.length x y gr = 0 then chkFrom x y gr [] l else (-1, seasonL l.length x y gr)
end Go.Proofs.Ythoocjcbpjdjhaa
