/-
  No cell of these rows narrows 'for every input' (looked for: loops, veiled, ifaces, maps, wideKeys, modest, calm, conditions, laid).
  DERIVED. THE GIVEN ROWS OF THIS SEAT. 5 by the template 'for every input the law returns true; each argument reads behind the call as it read before'; 0 by the template 'total and deterministic' (their statements: YthoocjcbpjdjhaaTotals.lean).
  GIVEN WITH THE SEED: the statements are not yours to turn. If you find one false, say at which input.
  Laid BY PROGRAM, IN A SANDBOX (cutbox-rows.mjs): the forced cells as the released guide's own fill.sh prints them over the translation 1b03055168e831e6… (all of the seat's roots in one cut). By AI agents, Wed Nov 11 2026. No macro, syntax, notation, axiom, sorry.
-/
import Derived.Test.YthoocjcbpjdjhaaChecked
import GoSem.Claim
import GoSem.ClaimJoined
import GoSem.ClaimMapViews
import Derived.JoinedTies
import Derived.KernelRfl
namespace Go.Proofs.Ythoocjcbpjdjhaa
/- THE CELL 'sum', in the pinned program and in every row, IS THE sha256 OF THE DUMP (.gsa) THAT YthoocjcbpjdjhaaProg.lean LOADS. Nothing in Lean hashes anything: it is a label: what it is worth is what the hold of that sum in a sandbox is worth. -/
noncomputable def Try.pinned : Pinned := { name := "ythoocjcbpjdjhaa", sum := "1b03055168e831e66e09efa139112c32375980e8939e2bad404e8f08da00ce01", checked := Try.checked }
namespace Rows
def none {H : Type} : Left H := { results := [], args := [] }

/-- 'scorebooklaw49.FixturesRounds': WHATEVER THE INPUT: true; the input reads as it did. -/
def fixturesRoundsSpec : ChangeSpec := { name := "fixturesRounds", fn := fun _ => fun
  | [d1, d2] => { results := [.lit (.bool true)], args := [d1, d2] }
  | _ => none }
def fixturesRoundsRow : OpenClaim := { program := "ythoocjcbpjdjhaa", sum := "1b03055168e831e66e09efa139112c32375980e8939e2bad404e8f08da00ce01", func := "scorebook/scorebooklaw49.FixturesRounds", spec := "fixturesRounds", unfollowed := true, recurses := true, apart := false }
def FixturesRoundsSaid : Prop := fixturesRoundsRow.holds Try.pinned (OpenSpec.ofChange fixturesRoundsSpec)

/-- ITS FALSE NEIGHBOUR: 'it returns false'. Refute it at one input. -/
def fixturesRoundsWrong : ChangeSpec := { name := "fixturesRounds", fn := fun _ => fun
  | [d1, d2] => { results := [.lit (.bool false)], args := [d1, d2] }
  | _ => none }
def FixturesRoundsWrongFalsely : Prop := fixturesRoundsRow.holds Try.pinned (OpenSpec.ofChange fixturesRoundsWrong)

/-- 'scorebooklaw49.FixturesPlaces': WHATEVER THE INPUT: true; the input reads as it did. -/
def fixturesPlacesSpec : ChangeSpec := { name := "fixturesPlaces", fn := fun _ => fun
  | [d1, d2, d3] => { results := [.lit (.bool true)], args := [d1, d2, d3] }
  | _ => none }
def fixturesPlacesRow : OpenClaim := { program := "ythoocjcbpjdjhaa", sum := "1b03055168e831e66e09efa139112c32375980e8939e2bad404e8f08da00ce01", func := "scorebook/scorebooklaw49.FixturesPlaces", spec := "fixturesPlaces", unfollowed := true, recurses := true, apart := false }
def FixturesPlacesSaid : Prop := fixturesPlacesRow.holds Try.pinned (OpenSpec.ofChange fixturesPlacesSpec)

/-- ITS FALSE NEIGHBOUR: 'it returns false'. Refute it at one input. -/
def fixturesPlacesWrong : ChangeSpec := { name := "fixturesPlaces", fn := fun _ => fun
  | [d1, d2, d3] => { results := [.lit (.bool false)], args := [d1, d2, d3] }
  | _ => none }
def FixturesPlacesWrongFalsely : Prop := fixturesPlacesRow.holds Try.pinned (OpenSpec.ofChange fixturesPlacesWrong)

/-- 'scorebooklaw49.FixturesDays': WHATEVER THE INPUT: true; the input reads as it did. -/
def fixturesDaysSpec : ChangeSpec := { name := "fixturesDays", fn := fun _ => fun
  | [d1, d2] => { results := [.lit (.bool true)], args := [d1, d2] }
  | _ => none }
def fixturesDaysRow : OpenClaim := { program := "ythoocjcbpjdjhaa", sum := "1b03055168e831e66e09efa139112c32375980e8939e2bad404e8f08da00ce01", func := "scorebook/scorebooklaw49.FixturesDays", spec := "fixturesDays", unfollowed := true, recurses := true, apart := false }
def FixturesDaysSaid : Prop := fixturesDaysRow.holds Try.pinned (OpenSpec.ofChange fixturesDaysSpec)

/-- ITS FALSE NEIGHBOUR: 'it returns false'. Refute it at one input. -/
def fixturesDaysWrong : ChangeSpec := { name := "fixturesDays", fn := fun _ => fun
  | [d1, d2] => { results := [.lit (.bool false)], args := [d1, d2] }
  | _ => none }
def FixturesDaysWrongFalsely : Prop := fixturesDaysRow.holds Try.pinned (OpenSpec.ofChange fixturesDaysWrong)

/-- 'scorebooklaw49.FixturesMeet': WHATEVER THE INPUT: true; the input reads as it did. -/
def fixturesMeetSpec : ChangeSpec := { name := "fixturesMeet", fn := fun _ => fun
  | [d1, d2] => { results := [.lit (.bool true)], args := [d1, d2] }
  | _ => none }
def fixturesMeetRow : OpenClaim := { program := "ythoocjcbpjdjhaa", sum := "1b03055168e831e66e09efa139112c32375980e8939e2bad404e8f08da00ce01", func := "scorebook/scorebooklaw49.FixturesMeet", spec := "fixturesMeet", unfollowed := true, recurses := true, apart := false }
def FixturesMeetSaid : Prop := fixturesMeetRow.holds Try.pinned (OpenSpec.ofChange fixturesMeetSpec)

/-- ITS FALSE NEIGHBOUR: 'it returns false'. Refute it at one input. -/
def fixturesMeetWrong : ChangeSpec := { name := "fixturesMeet", fn := fun _ => fun
  | [d1, d2] => { results := [.lit (.bool false)], args := [d1, d2] }
  | _ => none }
def FixturesMeetWrongFalsely : Prop := fixturesMeetRow.holds Try.pinned (OpenSpec.ofChange fixturesMeetWrong)

/-- 'scorebooklaw49.FixturesChecks': WHATEVER THE INPUT: true; the input reads as it did. -/
def fixturesChecksSpec : ChangeSpec := { name := "fixturesChecks", fn := fun _ => fun
  | [d1, d2, d3] => { results := [.lit (.bool true)], args := [d1, d2, d3] }
  | _ => none }
def fixturesChecksRow : OpenClaim := { program := "ythoocjcbpjdjhaa", sum := "1b03055168e831e66e09efa139112c32375980e8939e2bad404e8f08da00ce01", func := "scorebook/scorebooklaw49.FixturesChecks", spec := "fixturesChecks", unfollowed := true, recurses := true, apart := false }
def FixturesChecksSaid : Prop := fixturesChecksRow.holds Try.pinned (OpenSpec.ofChange fixturesChecksSpec)

/-- ITS FALSE NEIGHBOUR: 'it returns false'. Refute it at one input. -/
def fixturesChecksWrong : ChangeSpec := { name := "fixturesChecks", fn := fun _ => fun
  | [d1, d2, d3] => { results := [.lit (.bool false)], args := [d1, d2, d3] }
  | _ => none }
def FixturesChecksWrongFalsely : Prop := fixturesChecksRow.holds Try.pinned (OpenSpec.ofChange fixturesChecksWrong)

/- THE SECOND FORM. 'bulk': how many values and letters a reading holds, each counted each time it is reached (what is shared counts as often as it is met; a slice's spare places count too). A statement '..UptoSaid' is the law's where the arguments, and the package variables that the reading takes, are together of bulk at most 1048576: NARROWER than '..Said'. Prove '..Said' where nothing that the law and all that it calls make is longer than what came in: it says more and counts as full. Else prove '..UptoSaid'. A law counts once. -/
mutual
def uptoBulk {H : Type} : DataW H → Nat
  | .lit (.string bytes) => bytes.length + 1
  | .lit _ => 1
  | .nil => 1
  | .ptr d => uptoBulk d + 1
  | .slice elems spare => uptoBulkAll elems + uptoBulkAll spare + 1
  | .agg parts => uptoBulkAll parts + 1
  | .iface _ d => uptoBulk d + 1
  | .map entries => uptoBulkEntries entries + 1
  | .held _ => 1
def uptoBulkAll {H : Type} : List (DataW H) → Nat
  | [] => 0
  | d :: r => uptoBulk d + uptoBulkAll r
def uptoBulkEntries {H : Type} : List (Lit × DataW H) → Nat
  | [] => 0
  | x :: r => uptoBulkEntry x + uptoBulkEntries r
def uptoBulkEntry {H : Type} : Lit × DataW H → Nat
  | (.string bytes, d) => bytes.length + uptoBulk d + 1
  | (_, d) => uptoBulk d + 1
 end
def uptoSmall : (H : Type) → List (DataW H) → Bool := fun _ ds => decide (uptoBulkAll ds ≤ 1048576)
def OpenSpec.upto (s : _root_.Go.ChangeSpec) : _root_.Go.OpenSpec := { _root_.Go.OpenSpec.ofChange s with cond := some uptoSmall }

/-- 'scorebooklaw49.FixturesRounds', WHERE WHAT IT READS IS OF BULK AT MOST 1048576: true; the input reads as it did. -/
def fixturesRoundsUptoRow : OpenClaim := { program := "ythoocjcbpjdjhaa", sum := "1b03055168e831e66e09efa139112c32375980e8939e2bad404e8f08da00ce01", func := "scorebook/scorebooklaw49.FixturesRounds", spec := "fixturesRounds", unfollowed := true, recurses := true, apart := false, narrowed := true }
def FixturesRoundsUptoSaid : Prop := fixturesRoundsUptoRow.holds Try.pinned (OpenSpec.upto fixturesRoundsSpec)

/-- 'scorebooklaw49.FixturesPlaces', WHERE WHAT IT READS IS OF BULK AT MOST 1048576: true; the input reads as it did. -/
def fixturesPlacesUptoRow : OpenClaim := { program := "ythoocjcbpjdjhaa", sum := "1b03055168e831e66e09efa139112c32375980e8939e2bad404e8f08da00ce01", func := "scorebook/scorebooklaw49.FixturesPlaces", spec := "fixturesPlaces", unfollowed := true, recurses := true, apart := false, narrowed := true }
def FixturesPlacesUptoSaid : Prop := fixturesPlacesUptoRow.holds Try.pinned (OpenSpec.upto fixturesPlacesSpec)

/-- 'scorebooklaw49.FixturesDays', WHERE WHAT IT READS IS OF BULK AT MOST 1048576: true; the input reads as it did. -/
def fixturesDaysUptoRow : OpenClaim := { program := "ythoocjcbpjdjhaa", sum := "1b03055168e831e66e09efa139112c32375980e8939e2bad404e8f08da00ce01", func := "scorebook/scorebooklaw49.FixturesDays", spec := "fixturesDays", unfollowed := true, recurses := true, apart := false, narrowed := true }
def FixturesDaysUptoSaid : Prop := fixturesDaysUptoRow.holds Try.pinned (OpenSpec.upto fixturesDaysSpec)

/-- 'scorebooklaw49.FixturesMeet', WHERE WHAT IT READS IS OF BULK AT MOST 1048576: true; the input reads as it did. -/
def fixturesMeetUptoRow : OpenClaim := { program := "ythoocjcbpjdjhaa", sum := "1b03055168e831e66e09efa139112c32375980e8939e2bad404e8f08da00ce01", func := "scorebook/scorebooklaw49.FixturesMeet", spec := "fixturesMeet", unfollowed := true, recurses := true, apart := false, narrowed := true }
def FixturesMeetUptoSaid : Prop := fixturesMeetUptoRow.holds Try.pinned (OpenSpec.upto fixturesMeetSpec)

/-- 'scorebooklaw49.FixturesChecks', WHERE WHAT IT READS IS OF BULK AT MOST 1048576: true; the input reads as it did. -/
def fixturesChecksUptoRow : OpenClaim := { program := "ythoocjcbpjdjhaa", sum := "1b03055168e831e66e09efa139112c32375980e8939e2bad404e8f08da00ce01", func := "scorebook/scorebooklaw49.FixturesChecks", spec := "fixturesChecks", unfollowed := true, recurses := true, apart := false, narrowed := true }
def FixturesChecksUptoSaid : Prop := fixturesChecksUptoRow.holds Try.pinned (OpenSpec.upto fixturesChecksSpec)

end Rows
end Go.Proofs.Ythoocjcbpjdjhaa
