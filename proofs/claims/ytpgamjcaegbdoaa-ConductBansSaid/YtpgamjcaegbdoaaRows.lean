/-
  No cell of these rows narrows 'for every input' (looked for: loops, veiled, ifaces, maps, wideKeys, modest, calm, conditions, laid).
  DERIVED. THE GIVEN ROWS OF THIS SEAT. 5 by the template 'for every input the law returns true; each argument reads behind the call as it read before'; 0 by the template 'total and deterministic' (their statements: YtpgamjcaegbdoaaTotals.lean).
  GIVEN WITH THE SEED: the statements are not yours to turn. If you find one false, say at which input.
  Laid BY PROGRAM, IN A SANDBOX (cutbox-rows.mjs): the forced cells as the released guide's own fill.sh prints them over the translation f3635575378b2014… (all of the seat's roots in one cut). By AI agents, Wed Nov 11 2026. No macro, syntax, notation, axiom, sorry.
-/
import Derived.Test.YtpgamjcaegbdoaaChecked
import GoSem.Claim
import GoSem.ClaimJoined
import GoSem.ClaimMapViews
import Derived.JoinedTies
import Derived.KernelRfl
namespace Go.Proofs.Ytpgamjcaegbdoaa
/- THE CELL 'sum', in the pinned program and in every row, IS THE sha256 OF THE DUMP (.gsa) THAT YtpgamjcaegbdoaaProg.lean LOADS. Nothing in Lean hashes anything: it is a label: what it is worth is what the hold of that sum in a sandbox is worth. -/
noncomputable def Try.pinned : Pinned := { name := "ytpgamjcaegbdoaa", sum := "f3635575378b20146b6828b3e6921f72785e2ff83959ec6ad0a338b2d5a7d192", checked := Try.checked }
namespace Rows
def none {H : Type} : Left H := { results := [], args := [] }

/-- 'scorebooklaw56.ConductChecks': WHATEVER THE INPUT: true; the input reads as it did. -/
def conductChecksSpec : ChangeSpec := { name := "conductChecks", fn := fun _ => fun
  | [d1, d2, d3] => { results := [.lit (.bool true)], args := [d1, d2, d3] }
  | _ => none }
def conductChecksRow : OpenClaim := { program := "ytpgamjcaegbdoaa", sum := "f3635575378b20146b6828b3e6921f72785e2ff83959ec6ad0a338b2d5a7d192", func := "scorebook/scorebooklaw56.ConductChecks", spec := "conductChecks", unfollowed := true, recurses := true, apart := false }
def ConductChecksSaid : Prop := conductChecksRow.holds Try.pinned (OpenSpec.ofChange conductChecksSpec)

/-- ITS FALSE NEIGHBOUR: 'it returns false'. Refute it at one input. -/
def conductChecksWrong : ChangeSpec := { name := "conductChecks", fn := fun _ => fun
  | [d1, d2, d3] => { results := [.lit (.bool false)], args := [d1, d2, d3] }
  | _ => none }
def ConductChecksWrongFalsely : Prop := conductChecksRow.holds Try.pinned (OpenSpec.ofChange conductChecksWrong)

/-- 'scorebooklaw56.ConductOthers': WHATEVER THE INPUT: true; the input reads as it did. -/
def conductOthersSpec : ChangeSpec := { name := "conductOthers", fn := fun _ => fun
  | [d1, d2, d3] => { results := [.lit (.bool true)], args := [d1, d2, d3] }
  | _ => none }
def conductOthersRow : OpenClaim := { program := "ytpgamjcaegbdoaa", sum := "f3635575378b20146b6828b3e6921f72785e2ff83959ec6ad0a338b2d5a7d192", func := "scorebook/scorebooklaw56.ConductOthers", spec := "conductOthers", unfollowed := true, recurses := true, apart := false }
def ConductOthersSaid : Prop := conductOthersRow.holds Try.pinned (OpenSpec.ofChange conductOthersSpec)

/-- ITS FALSE NEIGHBOUR: 'it returns false'. Refute it at one input. -/
def conductOthersWrong : ChangeSpec := { name := "conductOthers", fn := fun _ => fun
  | [d1, d2, d3] => { results := [.lit (.bool false)], args := [d1, d2, d3] }
  | _ => none }
def ConductOthersWrongFalsely : Prop := conductOthersRow.holds Try.pinned (OpenSpec.ofChange conductOthersWrong)

/-- 'scorebooklaw56.ConductClean': WHATEVER THE INPUT: true; the input reads as it did. -/
def conductCleanSpec : ChangeSpec := { name := "conductClean", fn := fun _ => fun
  | [d1, d2, d3] => { results := [.lit (.bool true)], args := [d1, d2, d3] }
  | _ => none }
def conductCleanRow : OpenClaim := { program := "ytpgamjcaegbdoaa", sum := "f3635575378b20146b6828b3e6921f72785e2ff83959ec6ad0a338b2d5a7d192", func := "scorebook/scorebooklaw56.ConductClean", spec := "conductClean", unfollowed := true, recurses := true, apart := false }
def ConductCleanSaid : Prop := conductCleanRow.holds Try.pinned (OpenSpec.ofChange conductCleanSpec)

/-- ITS FALSE NEIGHBOUR: 'it returns false'. Refute it at one input. -/
def conductCleanWrong : ChangeSpec := { name := "conductClean", fn := fun _ => fun
  | [d1, d2, d3] => { results := [.lit (.bool false)], args := [d1, d2, d3] }
  | _ => none }
def ConductCleanWrongFalsely : Prop := conductCleanRow.holds Try.pinned (OpenSpec.ofChange conductCleanWrong)

/-- 'scorebooklaw56.ConductCounts': WHATEVER THE INPUT: true; the input reads as it did. -/
def conductCountsSpec : ChangeSpec := { name := "conductCounts", fn := fun _ => fun
  | [d] => { results := [.lit (.bool true)], args := [d] }
  | _ => none }
def conductCountsRow : OpenClaim := { program := "ytpgamjcaegbdoaa", sum := "f3635575378b20146b6828b3e6921f72785e2ff83959ec6ad0a338b2d5a7d192", func := "scorebook/scorebooklaw56.ConductCounts", spec := "conductCounts", unfollowed := true, recurses := true, apart := false }
def ConductCountsSaid : Prop := conductCountsRow.holds Try.pinned (OpenSpec.ofChange conductCountsSpec)

/-- ITS FALSE NEIGHBOUR: 'it returns false'. Refute it at one input. -/
def conductCountsWrong : ChangeSpec := { name := "conductCounts", fn := fun _ => fun
  | [d] => { results := [.lit (.bool false)], args := [d] }
  | _ => none }
def ConductCountsWrongFalsely : Prop := conductCountsRow.holds Try.pinned (OpenSpec.ofChange conductCountsWrong)

/-- 'scorebooklaw56.ConductBans': WHATEVER THE INPUT: true; the input reads as it did. -/
def conductBansSpec : ChangeSpec := { name := "conductBans", fn := fun _ => fun
  | [d1, d2, d3] => { results := [.lit (.bool true)], args := [d1, d2, d3] }
  | _ => none }
def conductBansRow : OpenClaim := { program := "ytpgamjcaegbdoaa", sum := "f3635575378b20146b6828b3e6921f72785e2ff83959ec6ad0a338b2d5a7d192", func := "scorebook/scorebooklaw56.ConductBans", spec := "conductBans", unfollowed := true, recurses := true, apart := false }
def ConductBansSaid : Prop := conductBansRow.holds Try.pinned (OpenSpec.ofChange conductBansSpec)

/-- ITS FALSE NEIGHBOUR: 'it returns false'. Refute it at one input. -/
def conductBansWrong : ChangeSpec := { name := "conductBans", fn := fun _ => fun
  | [d1, d2, d3] => { results := [.lit (.bool false)], args := [d1, d2, d3] }
  | _ => none }
def ConductBansWrongFalsely : Prop := conductBansRow.holds Try.pinned (OpenSpec.ofChange conductBansWrong)

/- THE SECOND FORM. 'bulk': how many values and letters a reading holds, each counted each time it is reached (what is shared counts as often as it is met; a slice's spare places count too). A statement '..UptoSaid' is the law's where the arguments, and the package variables that the reading takes, are together of bulk at most 1048576: NARROWER than '..Said'. Prove '..Said' where nothing that the law and all that it calls make is longer than what came in: it says more and counts as full. Else prove '..UptoSaid'. A law counts once. -/
mutual
def uptoBulk {H : Type} : DataW H → Nat
  | .lit (.string bytes) => bytes.length + 1
  | .lit _ => 1
  | .nil => 1
  | .ptr d => uptoBulk d + 1
  | .slice elems spare => uptoBulkAll elems + uptoBulkAll spare + 1
  | .agg parts => uptoBulkAll parts + 1
  | .iface _ d => uptoBulk d + 1
  | .map entries => uptoBulkEntries entries + 1
  | .held _ => 1
def uptoBulkAll {H : Type} : List (DataW H) → Nat
  | [] => 0
  | d :: r => uptoBulk d + uptoBulkAll r
def uptoBulkEntries {H : Type} : List (Lit × DataW H) → Nat
  | [] => 0
  | x :: r => uptoBulkEntry x + uptoBulkEntries r
def uptoBulkEntry {H : Type} : Lit × DataW H → Nat
  | (.string bytes, d) => bytes.length + uptoBulk d + 1
  | (_, d) => uptoBulk d + 1
 end
def uptoSmall : (H : Type) → List (DataW H) → Bool := fun _ ds => decide (uptoBulkAll ds ≤ 1048576)
def OpenSpec.upto (s : _root_.Go.ChangeSpec) : _root_.Go.OpenSpec := { _root_.Go.OpenSpec.ofChange s with cond := some uptoSmall }

/-- 'scorebooklaw56.ConductChecks', WHERE WHAT IT READS IS OF BULK AT MOST 1048576: true; the input reads as it did. -/
def conductChecksUptoRow : OpenClaim := { program := "ytpgamjcaegbdoaa", sum := "f3635575378b20146b6828b3e6921f72785e2ff83959ec6ad0a338b2d5a7d192", func := "scorebook/scorebooklaw56.ConductChecks", spec := "conductChecks", unfollowed := true, recurses := true, apart := false, narrowed := true }
def ConductChecksUptoSaid : Prop := conductChecksUptoRow.holds Try.pinned (OpenSpec.upto conductChecksSpec)

/-- 'scorebooklaw56.ConductOthers', WHERE WHAT IT READS IS OF BULK AT MOST 1048576: true; the input reads as it did. -/
def conductOthersUptoRow : OpenClaim := { program := "ytpgamjcaegbdoaa", sum := "f3635575378b20146b6828b3e6921f72785e2ff83959ec6ad0a338b2d5a7d192", func := "scorebook/scorebooklaw56.ConductOthers", spec := "conductOthers", unfollowed := true, recurses := true, apart := false, narrowed := true }
def ConductOthersUptoSaid : Prop := conductOthersUptoRow.holds Try.pinned (OpenSpec.upto conductOthersSpec)

/-- 'scorebooklaw56.ConductClean', WHERE WHAT IT READS IS OF BULK AT MOST 1048576: true; the input reads as it did. -/
def conductCleanUptoRow : OpenClaim := { program := "ytpgamjcaegbdoaa", sum := "f3635575378b20146b6828b3e6921f72785e2ff83959ec6ad0a338b2d5a7d192", func := "scorebook/scorebooklaw56.ConductClean", spec := "conductClean", unfollowed := true, recurses := true, apart := false, narrowed := true }
def ConductCleanUptoSaid : Prop := conductCleanUptoRow.holds Try.pinned (OpenSpec.upto conductCleanSpec)

/-- 'scorebooklaw56.ConductCounts', WHERE WHAT IT READS IS OF BULK AT MOST 1048576: true; the input reads as it did. -/
def conductCountsUptoRow : OpenClaim := { program := "ytpgamjcaegbdoaa", sum := "f3635575378b20146b6828b3e6921f72785e2ff83959ec6ad0a338b2d5a7d192", func := "scorebook/scorebooklaw56.ConductCounts", spec := "conductCounts", unfollowed := true, recurses := true, apart := false, narrowed := true }
def ConductCountsUptoSaid : Prop := conductCountsUptoRow.holds Try.pinned (OpenSpec.upto conductCountsSpec)

/-- 'scorebooklaw56.ConductBans', WHERE WHAT IT READS IS OF BULK AT MOST 1048576: true; the input reads as it did. -/
def conductBansUptoRow : OpenClaim := { program := "ytpgamjcaegbdoaa", sum := "f3635575378b20146b6828b3e6921f72785e2ff83959ec6ad0a338b2d5a7d192", func := "scorebook/scorebooklaw56.ConductBans", spec := "conductBans", unfollowed := true, recurses := true, apart := false, narrowed := true }
def ConductBansUptoSaid : Prop := conductBansUptoRow.holds Try.pinned (OpenSpec.upto conductBansSpec)

end Rows
end Go.Proofs.Ytpgamjcaegbdoaa
