/-
  No cell of these rows narrows 'for every input' (looked for: loops, veiled, ifaces, maps, wideKeys, modest, calm, conditions, laid).
  DERIVED. THE GIVEN ROWS OF THIS SEAT. 7 by the template 'for every input the law returns true; each argument reads behind the call as it read before'; 0 by the template 'total and deterministic' (their statements: YtckbhdokfkabfaaTotals.lean).
  GIVEN WITH THE SEED: the statements are not yours to turn. If you find one false, say at which input.
  Laid BY PROGRAM, IN A SANDBOX (cutbox-rows.mjs): the forced cells as the released guide's own fill.sh prints them over the translation 70f484a113890f59… (all of the seat's roots in one cut). By AI agents, Wed Nov 11 2026. No macro, syntax, notation, axiom, sorry.
-/
import Derived.Test.YtckbhdokfkabfaaChecked
import GoSem.Claim
import GoSem.ClaimJoined
import GoSem.ClaimMapViews
import Derived.JoinedTies
import Derived.KernelRfl
namespace Go.Proofs.Ytckbhdokfkabfaa
/- THE CELL 'sum', in the pinned program and in every row, IS THE sha256 OF THE DUMP (.gsa) THAT YtckbhdokfkabfaaProg.lean LOADS. Nothing in Lean hashes anything: it is a label: what it is worth is what the hold of that sum in a sandbox is worth. -/
noncomputable def Try.pinned : Pinned := { name := "ytckbhdokfkabfaa", sum := "70f484a113890f599e83ad86f7f38a27e0a6d1d6bba4d098bed5179a1aa06a86", checked := Try.checked }
namespace Rows
def none {H : Type} : Left H := { results := [], args := [] }

/-- 'scorebooklaw55.AppointChecks': WHATEVER THE INPUT: true; the input reads as it did. -/
def appointChecksSpec : ChangeSpec := { name := "appointChecks", fn := fun _ => fun
  | [d] => { results := [.lit (.bool true)], args := [d] }
  | _ => none }
def appointChecksRow : OpenClaim := { program := "ytckbhdokfkabfaa", sum := "70f484a113890f599e83ad86f7f38a27e0a6d1d6bba4d098bed5179a1aa06a86", func := "scorebook/scorebooklaw55.AppointChecks", spec := "appointChecks", recurses := true, plainKeys := false, apart := false }
def AppointChecksSaid : Prop := appointChecksRow.holds Try.pinned (OpenSpec.ofChange appointChecksSpec)

/-- ITS FALSE NEIGHBOUR: 'it returns false'. Refute it at one input. -/
def appointChecksWrong : ChangeSpec := { name := "appointChecks", fn := fun _ => fun
  | [d] => { results := [.lit (.bool false)], args := [d] }
  | _ => none }
def AppointChecksWrongFalsely : Prop := appointChecksRow.holds Try.pinned (OpenSpec.ofChange appointChecksWrong)

/-- 'scorebooklaw55.AppointBest': WHATEVER THE INPUT: true; the input reads as it did. -/
def appointBestSpec : ChangeSpec := { name := "appointBest", fn := fun _ => fun
  | [d] => { results := [.lit (.bool true)], args := [d] }
  | _ => none }
def appointBestRow : OpenClaim := { program := "ytckbhdokfkabfaa", sum := "70f484a113890f599e83ad86f7f38a27e0a6d1d6bba4d098bed5179a1aa06a86", func := "scorebook/scorebooklaw55.AppointBest", spec := "appointBest", recurses := true, plainKeys := false, apart := false }
def AppointBestSaid : Prop := appointBestRow.holds Try.pinned (OpenSpec.ofChange appointBestSpec)

/-- ITS FALSE NEIGHBOUR: 'it returns false'. Refute it at one input. -/
def appointBestWrong : ChangeSpec := { name := "appointBest", fn := fun _ => fun
  | [d] => { results := [.lit (.bool false)], args := [d] }
  | _ => none }
def AppointBestWrongFalsely : Prop := appointBestRow.holds Try.pinned (OpenSpec.ofChange appointBestWrong)

/-- 'scorebooklaw55.AppointMore': WHATEVER THE INPUT: true; the input reads as it did. -/
def appointMoreSpec : ChangeSpec := { name := "appointMore", fn := fun _ => fun
  | [d1, d2] => { results := [.lit (.bool true)], args := [d1, d2] }
  | _ => none }
def appointMoreRow : OpenClaim := { program := "ytckbhdokfkabfaa", sum := "70f484a113890f599e83ad86f7f38a27e0a6d1d6bba4d098bed5179a1aa06a86", func := "scorebook/scorebooklaw55.AppointMore", spec := "appointMore", recurses := true, plainKeys := false, apart := false }
def AppointMoreSaid : Prop := appointMoreRow.holds Try.pinned (OpenSpec.ofChange appointMoreSpec)

/-- ITS FALSE NEIGHBOUR: 'it returns false'. Refute it at one input. -/
def appointMoreWrong : ChangeSpec := { name := "appointMore", fn := fun _ => fun
  | [d1, d2] => { results := [.lit (.bool false)], args := [d1, d2] }
  | _ => none }
def AppointMoreWrongFalsely : Prop := appointMoreRow.holds Try.pinned (OpenSpec.ofChange appointMoreWrong)

/-- 'scorebooklaw55.AppointRefutes': WHATEVER THE INPUT: true; the input reads as it did. -/
def appointRefutesSpec : ChangeSpec := { name := "appointRefutes", fn := fun _ => fun
  | [d1, d2] => { results := [.lit (.bool true)], args := [d1, d2] }
  | _ => none }
def appointRefutesRow : OpenClaim := { program := "ytckbhdokfkabfaa", sum := "70f484a113890f599e83ad86f7f38a27e0a6d1d6bba4d098bed5179a1aa06a86", func := "scorebook/scorebooklaw55.AppointRefutes", spec := "appointRefutes", unfollowed := true, recurses := true, plainKeys := false, apart := false }
def AppointRefutesSaid : Prop := appointRefutesRow.holds Try.pinned (OpenSpec.ofChange appointRefutesSpec)

/-- ITS FALSE NEIGHBOUR: 'it returns false'. Refute it at one input. -/
def appointRefutesWrong : ChangeSpec := { name := "appointRefutes", fn := fun _ => fun
  | [d1, d2] => { results := [.lit (.bool false)], args := [d1, d2] }
  | _ => none }
def AppointRefutesWrongFalsely : Prop := appointRefutesRow.holds Try.pinned (OpenSpec.ofChange appointRefutesWrong)

/-- 'scorebooklaw55.AppointAccepts': WHATEVER THE INPUT: true; the input reads as it did. -/
def appointAcceptsSpec : ChangeSpec := { name := "appointAccepts", fn := fun _ => fun
  | [d1, d2] => { results := [.lit (.bool true)], args := [d1, d2] }
  | _ => none }
def appointAcceptsRow : OpenClaim := { program := "ytckbhdokfkabfaa", sum := "70f484a113890f599e83ad86f7f38a27e0a6d1d6bba4d098bed5179a1aa06a86", func := "scorebook/scorebooklaw55.AppointAccepts", spec := "appointAccepts", unfollowed := true, recurses := true, plainKeys := false, apart := false }
def AppointAcceptsSaid : Prop := appointAcceptsRow.holds Try.pinned (OpenSpec.ofChange appointAcceptsSpec)

/-- ITS FALSE NEIGHBOUR: 'it returns false'. Refute it at one input. -/
def appointAcceptsWrong : ChangeSpec := { name := "appointAccepts", fn := fun _ => fun
  | [d1, d2] => { results := [.lit (.bool false)], args := [d1, d2] }
  | _ => none }
def AppointAcceptsWrongFalsely : Prop := appointAcceptsRow.holds Try.pinned (OpenSpec.ofChange appointAcceptsWrong)

/-- 'scorebooklaw55.AppointProves': WHATEVER THE INPUT: true; the input reads as it did. -/
def appointProvesSpec : ChangeSpec := { name := "appointProves", fn := fun _ => fun
  | [d] => { results := [.lit (.bool true)], args := [d] }
  | _ => none }
def appointProvesRow : OpenClaim := { program := "ytckbhdokfkabfaa", sum := "70f484a113890f599e83ad86f7f38a27e0a6d1d6bba4d098bed5179a1aa06a86", func := "scorebook/scorebooklaw55.AppointProves", spec := "appointProves", unfollowed := true, recurses := true, plainKeys := false, apart := false }
def AppointProvesSaid : Prop := appointProvesRow.holds Try.pinned (OpenSpec.ofChange appointProvesSpec)

/-- ITS FALSE NEIGHBOUR: 'it returns false'. Refute it at one input. -/
def appointProvesWrong : ChangeSpec := { name := "appointProves", fn := fun _ => fun
  | [d] => { results := [.lit (.bool false)], args := [d] }
  | _ => none }
def AppointProvesWrongFalsely : Prop := appointProvesRow.holds Try.pinned (OpenSpec.ofChange appointProvesWrong)

/-- 'scorebooklaw55.AppointSound': WHATEVER THE INPUT: true; the input reads as it did. -/
def appointSoundSpec : ChangeSpec := { name := "appointSound", fn := fun _ => fun
  | [d1, d2, d3] => { results := [.lit (.bool true)], args := [d1, d2, d3] }
  | _ => none }
def appointSoundRow : OpenClaim := { program := "ytckbhdokfkabfaa", sum := "70f484a113890f599e83ad86f7f38a27e0a6d1d6bba4d098bed5179a1aa06a86", func := "scorebook/scorebooklaw55.AppointSound", spec := "appointSound", unfollowed := true, recurses := true, plainKeys := false, apart := false }
def AppointSoundSaid : Prop := appointSoundRow.holds Try.pinned (OpenSpec.ofChange appointSoundSpec)

/-- ITS FALSE NEIGHBOUR: 'it returns false'. Refute it at one input. -/
def appointSoundWrong : ChangeSpec := { name := "appointSound", fn := fun _ => fun
  | [d1, d2, d3] => { results := [.lit (.bool false)], args := [d1, d2, d3] }
  | _ => none }
def AppointSoundWrongFalsely : Prop := appointSoundRow.holds Try.pinned (OpenSpec.ofChange appointSoundWrong)

/- THE SECOND FORM. 'bulk': how many values and letters a reading holds, each counted each time it is reached (what is shared counts as often as it is met; a slice's spare places count too). A statement '..UptoSaid' is the law's where the arguments, and the package variables that the reading takes, are together of bulk at most 1048576: NARROWER than '..Said'. Prove '..Said' where nothing that the law and all that it calls make is longer than what came in: it says more and counts as full. Else prove '..UptoSaid'. A law counts once. -/
mutual
def uptoBulk {H : Type} : DataW H → Nat
  | .lit (.string bytes) => bytes.length + 1
  | .lit _ => 1
  | .nil => 1
  | .ptr d => uptoBulk d + 1
  | .slice elems spare => uptoBulkAll elems + uptoBulkAll spare + 1
  | .agg parts => uptoBulkAll parts + 1
  | .iface _ d => uptoBulk d + 1
  | .map entries => uptoBulkEntries entries + 1
  | .held _ => 1
def uptoBulkAll {H : Type} : List (DataW H) → Nat
  | [] => 0
  | d :: r => uptoBulk d + uptoBulkAll r
def uptoBulkEntries {H : Type} : List (Lit × DataW H) → Nat
  | [] => 0
  | x :: r => uptoBulkEntry x + uptoBulkEntries r
def uptoBulkEntry {H : Type} : Lit × DataW H → Nat
  | (.string bytes, d) => bytes.length + uptoBulk d + 1
  | (_, d) => uptoBulk d + 1
 end
def uptoSmall : (H : Type) → List (DataW H) → Bool := fun _ ds => decide (uptoBulkAll ds ≤ 1048576)
def OpenSpec.upto (s : _root_.Go.ChangeSpec) : _root_.Go.OpenSpec := { _root_.Go.OpenSpec.ofChange s with cond := some uptoSmall }

/-- 'scorebooklaw55.AppointChecks', WHERE WHAT IT READS IS OF BULK AT MOST 1048576: true; the input reads as it did. -/
def appointChecksUptoRow : OpenClaim := { program := "ytckbhdokfkabfaa", sum := "70f484a113890f599e83ad86f7f38a27e0a6d1d6bba4d098bed5179a1aa06a86", func := "scorebook/scorebooklaw55.AppointChecks", spec := "appointChecks", recurses := true, plainKeys := false, apart := false, narrowed := true }
def AppointChecksUptoSaid : Prop := appointChecksUptoRow.holds Try.pinned (OpenSpec.upto appointChecksSpec)

/-- 'scorebooklaw55.AppointBest', WHERE WHAT IT READS IS OF BULK AT MOST 1048576: true; the input reads as it did. -/
def appointBestUptoRow : OpenClaim := { program := "ytckbhdokfkabfaa", sum := "70f484a113890f599e83ad86f7f38a27e0a6d1d6bba4d098bed5179a1aa06a86", func := "scorebook/scorebooklaw55.AppointBest", spec := "appointBest", recurses := true, plainKeys := false, apart := false, narrowed := true }
def AppointBestUptoSaid : Prop := appointBestUptoRow.holds Try.pinned (OpenSpec.upto appointBestSpec)

/-- 'scorebooklaw55.AppointMore', WHERE WHAT IT READS IS OF BULK AT MOST 1048576: true; the input reads as it did. -/
def appointMoreUptoRow : OpenClaim := { program := "ytckbhdokfkabfaa", sum := "70f484a113890f599e83ad86f7f38a27e0a6d1d6bba4d098bed5179a1aa06a86", func := "scorebook/scorebooklaw55.AppointMore", spec := "appointMore", recurses := true, plainKeys := false, apart := false, narrowed := true }
def AppointMoreUptoSaid : Prop := appointMoreUptoRow.holds Try.pinned (OpenSpec.upto appointMoreSpec)

/-- 'scorebooklaw55.AppointRefutes', WHERE WHAT IT READS IS OF BULK AT MOST 1048576: true; the input reads as it did. -/
def appointRefutesUptoRow : OpenClaim := { program := "ytckbhdokfkabfaa", sum := "70f484a113890f599e83ad86f7f38a27e0a6d1d6bba4d098bed5179a1aa06a86", func := "scorebook/scorebooklaw55.AppointRefutes", spec := "appointRefutes", unfollowed := true, recurses := true, plainKeys := false, apart := false, narrowed := true }
def AppointRefutesUptoSaid : Prop := appointRefutesUptoRow.holds Try.pinned (OpenSpec.upto appointRefutesSpec)

/-- 'scorebooklaw55.AppointAccepts', WHERE WHAT IT READS IS OF BULK AT MOST 1048576: true; the input reads as it did. -/
def appointAcceptsUptoRow : OpenClaim := { program := "ytckbhdokfkabfaa", sum := "70f484a113890f599e83ad86f7f38a27e0a6d1d6bba4d098bed5179a1aa06a86", func := "scorebook/scorebooklaw55.AppointAccepts", spec := "appointAccepts", unfollowed := true, recurses := true, plainKeys := false, apart := false, narrowed := true }
def AppointAcceptsUptoSaid : Prop := appointAcceptsUptoRow.holds Try.pinned (OpenSpec.upto appointAcceptsSpec)

/-- 'scorebooklaw55.AppointProves', WHERE WHAT IT READS IS OF BULK AT MOST 1048576: true; the input reads as it did. -/
def appointProvesUptoRow : OpenClaim := { program := "ytckbhdokfkabfaa", sum := "70f484a113890f599e83ad86f7f38a27e0a6d1d6bba4d098bed5179a1aa06a86", func := "scorebook/scorebooklaw55.AppointProves", spec := "appointProves", unfollowed := true, recurses := true, plainKeys := false, apart := false, narrowed := true }
def AppointProvesUptoSaid : Prop := appointProvesUptoRow.holds Try.pinned (OpenSpec.upto appointProvesSpec)

/-- 'scorebooklaw55.AppointSound', WHERE WHAT IT READS IS OF BULK AT MOST 1048576: true; the input reads as it did. -/
def appointSoundUptoRow : OpenClaim := { program := "ytckbhdokfkabfaa", sum := "70f484a113890f599e83ad86f7f38a27e0a6d1d6bba4d098bed5179a1aa06a86", func := "scorebook/scorebooklaw55.AppointSound", spec := "appointSound", unfollowed := true, recurses := true, plainKeys := false, apart := false, narrowed := true }
def AppointSoundUptoSaid : Prop := appointSoundUptoRow.holds Try.pinned (OpenSpec.upto appointSoundSpec)

end Rows
end Go.Proofs.Ytckbhdokfkabfaa
