/-
  No cell of these rows narrows 'for every input' (looked for: loops, veiled, ifaces, maps, wideKeys, modest, calm, conditions, laid).
  DERIVED. THE GIVEN ROWS OF THIS SEAT. 4 by the template 'for every input the law returns true; each argument reads behind the call as it read before'; 0 by the template 'total and deterministic' (their statements: YtnbhplhhemkniaaTotals.lean).
  GIVEN WITH THE SEED: the statements are not yours to turn. If you find one false, say at which input.
  Laid BY PROGRAM, IN A SANDBOX (cutbox-rows.mjs): the forced cells as the released guide's own fill.sh prints them over the translation e7eb2fd25db3596a… (all of the seat's roots in one cut). By AI agents, Wed Nov 11 2026. No macro, syntax, notation, axiom, sorry.
-/
import Derived.Test.YtnbhplhhemkniaaChecked
import GoSem.Claim
import GoSem.ClaimJoined
import GoSem.ClaimMapViews
import Derived.JoinedTies
import Derived.KernelRfl
namespace Go.Proofs.Ytnbhplhhemkniaa
/- THE CELL 'sum', in the pinned program and in every row, IS THE sha256 OF THE DUMP (.gsa) THAT YtnbhplhhemkniaaProg.lean LOADS. Nothing in Lean hashes anything: it is a label: what it is worth is what the hold of that sum in a sandbox is worth. -/
noncomputable def Try.pinned : Pinned := { name := "ytnbhplhhemkniaa", sum := "e7eb2fd25db3596a78b6e557ac39eebbb70aa0d1704fca023654ac781e1e5b31", checked := Try.checked }
namespace Rows
def none {H : Type} : Left H := { results := [], args := [] }

/-- 'scorebooklaw50.ReservePlans': WHATEVER THE INPUT: true; the input reads as it did. -/
def reservePlansSpec : ChangeSpec := { name := "reservePlans", fn := fun _ => fun
  | [d] => { results := [.lit (.bool true)], args := [d] }
  | _ => none }
def reservePlansRow : OpenClaim := { program := "ytnbhplhhemkniaa", sum := "e7eb2fd25db3596a78b6e557ac39eebbb70aa0d1704fca023654ac781e1e5b31", func := "scorebook/scorebooklaw50.ReservePlans", spec := "reservePlans", recurses := true, apart := false }
def ReservePlansSaid : Prop := reservePlansRow.holds Try.pinned (OpenSpec.ofChange reservePlansSpec)

/-- ITS FALSE NEIGHBOUR: 'it returns false'. Refute it at one input. -/
def reservePlansWrong : ChangeSpec := { name := "reservePlans", fn := fun _ => fun
  | [d] => { results := [.lit (.bool false)], args := [d] }
  | _ => none }
def ReservePlansWrongFalsely : Prop := reservePlansRow.holds Try.pinned (OpenSpec.ofChange reservePlansWrong)

/-- 'scorebooklaw50.ReserveCounts': WHATEVER THE INPUT: true; the input reads as it did. -/
def reserveCountsSpec : ChangeSpec := { name := "reserveCounts", fn := fun _ => fun
  | [d1, d2] => { results := [.lit (.bool true)], args := [d1, d2] }
  | _ => none }
def reserveCountsRow : OpenClaim := { program := "ytnbhplhhemkniaa", sum := "e7eb2fd25db3596a78b6e557ac39eebbb70aa0d1704fca023654ac781e1e5b31", func := "scorebook/scorebooklaw50.ReserveCounts", spec := "reserveCounts", recurses := true, apart := false }
def ReserveCountsSaid : Prop := reserveCountsRow.holds Try.pinned (OpenSpec.ofChange reserveCountsSpec)

/-- ITS FALSE NEIGHBOUR: 'it returns false'. Refute it at one input. -/
def reserveCountsWrong : ChangeSpec := { name := "reserveCounts", fn := fun _ => fun
  | [d1, d2] => { results := [.lit (.bool false)], args := [d1, d2] }
  | _ => none }
def ReserveCountsWrongFalsely : Prop := reserveCountsRow.holds Try.pinned (OpenSpec.ofChange reserveCountsWrong)

/-- 'scorebooklaw50.ReserveAccepts': WHATEVER THE INPUT: true; the input reads as it did. -/
def reserveAcceptsSpec : ChangeSpec := { name := "reserveAccepts", fn := fun _ => fun
  | [d1, d2] => { results := [.lit (.bool true)], args := [d1, d2] }
  | _ => none }
def reserveAcceptsRow : OpenClaim := { program := "ytnbhplhhemkniaa", sum := "e7eb2fd25db3596a78b6e557ac39eebbb70aa0d1704fca023654ac781e1e5b31", func := "scorebook/scorebooklaw50.ReserveAccepts", spec := "reserveAccepts", recurses := true, apart := false }
def ReserveAcceptsSaid : Prop := reserveAcceptsRow.holds Try.pinned (OpenSpec.ofChange reserveAcceptsSpec)

/-- ITS FALSE NEIGHBOUR: 'it returns false'. Refute it at one input. -/
def reserveAcceptsWrong : ChangeSpec := { name := "reserveAccepts", fn := fun _ => fun
  | [d1, d2] => { results := [.lit (.bool false)], args := [d1, d2] }
  | _ => none }
def ReserveAcceptsWrongFalsely : Prop := reserveAcceptsRow.holds Try.pinned (OpenSpec.ofChange reserveAcceptsWrong)

/-- 'scorebooklaw50.ReserveProves': WHATEVER THE INPUT: true; the input reads as it did. -/
def reserveProvesSpec : ChangeSpec := { name := "reserveProves", fn := fun _ => fun
  | [d1, d2, d3] => { results := [.lit (.bool true)], args := [d1, d2, d3] }
  | _ => none }
def reserveProvesRow : OpenClaim := { program := "ytnbhplhhemkniaa", sum := "e7eb2fd25db3596a78b6e557ac39eebbb70aa0d1704fca023654ac781e1e5b31", func := "scorebook/scorebooklaw50.ReserveProves", spec := "reserveProves", recurses := true, apart := false }
def ReserveProvesSaid : Prop := reserveProvesRow.holds Try.pinned (OpenSpec.ofChange reserveProvesSpec)

/-- ITS FALSE NEIGHBOUR: 'it returns false'. Refute it at one input. -/
def reserveProvesWrong : ChangeSpec := { name := "reserveProves", fn := fun _ => fun
  | [d1, d2, d3] => { results := [.lit (.bool false)], args := [d1, d2, d3] }
  | _ => none }
def ReserveProvesWrongFalsely : Prop := reserveProvesRow.holds Try.pinned (OpenSpec.ofChange reserveProvesWrong)

/- THE SECOND FORM. 'bulk': how many values and letters a reading holds, each counted each time it is reached (what is shared counts as often as it is met; a slice's spare places count too). A statement '..UptoSaid' is the law's where the arguments, and the package variables that the reading takes, are together of bulk at most 1048576: NARROWER than '..Said'. Prove '..Said' where nothing that the law and all that it calls make is longer than what came in: it says more and counts as full. Else prove '..UptoSaid'. A law counts once. -/
mutual
def uptoBulk {H : Type} : DataW H → Nat
  | .lit (.string bytes) => bytes.length + 1
  | .lit _ => 1
  | .nil => 1
  | .ptr d => uptoBulk d + 1
  | .slice elems spare => uptoBulkAll elems + uptoBulkAll spare + 1
  | .agg parts => uptoBulkAll parts + 1
  | .iface _ d => uptoBulk d + 1
  | .map entries => uptoBulkEntries entries + 1
  | .held _ => 1
def uptoBulkAll {H : Type} : List (DataW H) → Nat
  | [] => 0
  | d :: r => uptoBulk d + uptoBulkAll r
def uptoBulkEntries {H : Type} : List (Lit × DataW H) → Nat
  | [] => 0
  | x :: r => uptoBulkEntry x + uptoBulkEntries r
def uptoBulkEntry {H : Type} : Lit × DataW H → Nat
  | (.string bytes, d) => bytes.length + uptoBulk d + 1
  | (_, d) => uptoBulk d + 1
 end
def uptoSmall : (H : Type) → List (DataW H) → Bool := fun _ ds => decide (uptoBulkAll ds ≤ 1048576)
def OpenSpec.upto (s : _root_.Go.ChangeSpec) : _root_.Go.OpenSpec := { _root_.Go.OpenSpec.ofChange s with cond := some uptoSmall }

/-- 'scorebooklaw50.ReservePlans', WHERE WHAT IT READS IS OF BULK AT MOST 1048576: true; the input reads as it did. -/
def reservePlansUptoRow : OpenClaim := { program := "ytnbhplhhemkniaa", sum := "e7eb2fd25db3596a78b6e557ac39eebbb70aa0d1704fca023654ac781e1e5b31", func := "scorebook/scorebooklaw50.ReservePlans", spec := "reservePlans", recurses := true, apart := false, narrowed := true }
def ReservePlansUptoSaid : Prop := reservePlansUptoRow.holds Try.pinned (OpenSpec.upto reservePlansSpec)

/-- 'scorebooklaw50.ReserveCounts', WHERE WHAT IT READS IS OF BULK AT MOST 1048576: true; the input reads as it did. -/
def reserveCountsUptoRow : OpenClaim := { program := "ytnbhplhhemkniaa", sum := "e7eb2fd25db3596a78b6e557ac39eebbb70aa0d1704fca023654ac781e1e5b31", func := "scorebook/scorebooklaw50.ReserveCounts", spec := "reserveCounts", recurses := true, apart := false, narrowed := true }
def ReserveCountsUptoSaid : Prop := reserveCountsUptoRow.holds Try.pinned (OpenSpec.upto reserveCountsSpec)

/-- 'scorebooklaw50.ReserveAccepts', WHERE WHAT IT READS IS OF BULK AT MOST 1048576: true; the input reads as it did. -/
def reserveAcceptsUptoRow : OpenClaim := { program := "ytnbhplhhemkniaa", sum := "e7eb2fd25db3596a78b6e557ac39eebbb70aa0d1704fca023654ac781e1e5b31", func := "scorebook/scorebooklaw50.ReserveAccepts", spec := "reserveAccepts", recurses := true, apart := false, narrowed := true }
def ReserveAcceptsUptoSaid : Prop := reserveAcceptsUptoRow.holds Try.pinned (OpenSpec.upto reserveAcceptsSpec)

/-- 'scorebooklaw50.ReserveProves', WHERE WHAT IT READS IS OF BULK AT MOST 1048576: true; the input reads as it did. -/
def reserveProvesUptoRow : OpenClaim := { program := "ytnbhplhhemkniaa", sum := "e7eb2fd25db3596a78b6e557ac39eebbb70aa0d1704fca023654ac781e1e5b31", func := "scorebook/scorebooklaw50.ReserveProves", spec := "reserveProves", recurses := true, apart := false, narrowed := true }
def ReserveProvesUptoSaid : Prop := reserveProvesUptoRow.holds Try.pinned (OpenSpec.upto reserveProvesSpec)

end Rows
end Go.Proofs.Ytnbhplhhemkniaa
