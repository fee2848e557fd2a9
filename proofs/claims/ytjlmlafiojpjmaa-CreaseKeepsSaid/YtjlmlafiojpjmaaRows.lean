/-
  No cell of these rows narrows 'for every input' (looked for: loops, veiled, ifaces, maps, wideKeys, modest, calm, conditions, laid).
  DERIVED. THE GIVEN ROWS OF THIS SEAT. 3 by the template 'for every input the law returns true; each argument reads behind the call as it read before'; 0 by the template 'total and deterministic' (their statements: YtjlmlafiojpjmaaTotals.lean).
  GIVEN WITH THE SEED: the statements are not yours to turn. If you find one false, say at which input.
  Laid BY PROGRAM, IN A SANDBOX (cutbox-rows.mjs): the forced cells as the released guide's own fill.sh prints them over the translation 37c3944c0fa585fe… (all of the seat's roots in one cut). By AI agents, Wed Nov 11 2026. No macro, syntax, notation, axiom, sorry.
-/
import Derived.Test.YtjlmlafiojpjmaaChecked
import GoSem.Claim
import GoSem.ClaimJoined
import GoSem.ClaimMapViews
import Derived.JoinedTies
import Derived.KernelRfl
namespace Go.Proofs.Ytjlmlafiojpjmaa
/- THE CELL 'sum', in the pinned program and in every row, IS THE sha256 OF THE DUMP (.gsa) THAT YtjlmlafiojpjmaaProg.lean LOADS. Nothing in Lean hashes anything: it is a label: what it is worth is what the hold of that sum in a sandbox is worth. -/
noncomputable def Try.pinned : Pinned := { name := "ytjlmlafiojpjmaa", sum := "37c3944c0fa585fe8d1da999fd2908f77a3526fc6be6b365faf7cdab82ddf667", checked := Try.checked }
namespace Rows
def none {H : Type} : Left H := { results := [], args := [] }

/-- 'scorebooklaw12.CreaseEnds': WHATEVER THE INPUT: true; the input reads as it did. -/
def creaseEndsSpec : ChangeSpec := { name := "creaseEnds", fn := fun _ => fun
  | [d1, d2] => { results := [.lit (.bool true)], args := [d1, d2] }
  | _ => none }
def creaseEndsRow : OpenClaim := { program := "ytjlmlafiojpjmaa", sum := "37c3944c0fa585fe8d1da999fd2908f77a3526fc6be6b365faf7cdab82ddf667", func := "scorebook/scorebooklaw12.CreaseEnds", spec := "creaseEnds", unfollowed := true, recurses := true, apart := false }
def CreaseEndsSaid : Prop := creaseEndsRow.holds Try.pinned (OpenSpec.ofChange creaseEndsSpec)

/-- ITS FALSE NEIGHBOUR: 'it returns false'. Refute it at one input. -/
def creaseEndsWrong : ChangeSpec := { name := "creaseEnds", fn := fun _ => fun
  | [d1, d2] => { results := [.lit (.bool false)], args := [d1, d2] }
  | _ => none }
def CreaseEndsWrongFalsely : Prop := creaseEndsRow.holds Try.pinned (OpenSpec.ofChange creaseEndsWrong)

/-- 'scorebooklaw12.CreaseKeeps': WHATEVER THE INPUT: true; the input reads as it did. -/
def creaseKeepsSpec : ChangeSpec := { name := "creaseKeeps", fn := fun _ => fun
  | [d1, d2] => { results := [.lit (.bool true)], args := [d1, d2] }
  | _ => none }
def creaseKeepsRow : OpenClaim := { program := "ytjlmlafiojpjmaa", sum := "37c3944c0fa585fe8d1da999fd2908f77a3526fc6be6b365faf7cdab82ddf667", func := "scorebook/scorebooklaw12.CreaseKeeps", spec := "creaseKeeps", unfollowed := true, recurses := true, apart := false }
def CreaseKeepsSaid : Prop := creaseKeepsRow.holds Try.pinned (OpenSpec.ofChange creaseKeepsSpec)

/-- ITS FALSE NEIGHBOUR: 'it returns false'. Refute it at one input. -/
def creaseKeepsWrong : ChangeSpec := { name := "creaseKeeps", fn := fun _ => fun
  | [d1, d2] => { results := [.lit (.bool false)], args := [d1, d2] }
  | _ => none }
def CreaseKeepsWrongFalsely : Prop := creaseKeepsRow.holds Try.pinned (OpenSpec.ofChange creaseKeepsWrong)

/-- 'scorebooklaw12.CreaseTwo': WHATEVER THE INPUT: true; the input reads as it did. -/
def creaseTwoSpec : ChangeSpec := { name := "creaseTwo", fn := fun _ => fun
  | [d1, d2] => { results := [.lit (.bool true)], args := [d1, d2] }
  | _ => none }
def creaseTwoRow : OpenClaim := { program := "ytjlmlafiojpjmaa", sum := "37c3944c0fa585fe8d1da999fd2908f77a3526fc6be6b365faf7cdab82ddf667", func := "scorebook/scorebooklaw12.CreaseTwo", spec := "creaseTwo", unfollowed := true, recurses := true, apart := false }
def CreaseTwoSaid : Prop := creaseTwoRow.holds Try.pinned (OpenSpec.ofChange creaseTwoSpec)

/-- ITS FALSE NEIGHBOUR: 'it returns false'. Refute it at one input. -/
def creaseTwoWrong : ChangeSpec := { name := "creaseTwo", fn := fun _ => fun
  | [d1, d2] => { results := [.lit (.bool false)], args := [d1, d2] }
  | _ => none }
def CreaseTwoWrongFalsely : Prop := creaseTwoRow.holds Try.pinned (OpenSpec.ofChange creaseTwoWrong)

/- THE SECOND FORM. 'bulk': how many values and letters a reading holds, each counted each time it is reached (what is shared counts as often as it is met; a slice's spare places count too). A statement '..UptoSaid' is the law's where the arguments, and the package variables that the reading takes, are together of bulk at most 1048576: NARROWER than '..Said'. Prove '..Said' where nothing that the law and all that it calls make is longer than what came in: it says more and counts as full. Else prove '..UptoSaid'. A law counts once. -/
mutual
def uptoBulk {H : Type} : DataW H → Nat
  | .lit (.string bytes) => bytes.length + 1
  | .lit _ => 1
  | .nil => 1
  | .ptr d => uptoBulk d + 1
  | .slice elems spare => uptoBulkAll elems + uptoBulkAll spare + 1
  | .agg parts => uptoBulkAll parts + 1
  | .iface _ d => uptoBulk d + 1
  | .map entries => uptoBulkEntries entries + 1
  | .held _ => 1
def uptoBulkAll {H : Type} : List (DataW H) → Nat
  | [] => 0
  | d :: r => uptoBulk d + uptoBulkAll r
def uptoBulkEntries {H : Type} : List (Lit × DataW H) → Nat
  | [] => 0
  | x :: r => uptoBulkEntry x + uptoBulkEntries r
def uptoBulkEntry {H : Type} : Lit × DataW H → Nat
  | (.string bytes, d) => bytes.length + uptoBulk d + 1
  | (_, d) => uptoBulk d + 1
 end
def uptoSmall : (H : Type) → List (DataW H) → Bool := fun _ ds => decide (uptoBulkAll ds ≤ 1048576)
def OpenSpec.upto (s : _root_.Go.ChangeSpec) : _root_.Go.OpenSpec := { _root_.Go.OpenSpec.ofChange s with cond := some uptoSmall }

/-- 'scorebooklaw12.CreaseEnds', WHERE WHAT IT READS IS OF BULK AT MOST 1048576: true; the input reads as it did. -/
def creaseEndsUptoRow : OpenClaim := { program := "ytjlmlafiojpjmaa", sum := "37c3944c0fa585fe8d1da999fd2908f77a3526fc6be6b365faf7cdab82ddf667", func := "scorebook/scorebooklaw12.CreaseEnds", spec := "creaseEnds", unfollowed := true, recurses := true, apart := false, narrowed := true }
def CreaseEndsUptoSaid : Prop := creaseEndsUptoRow.holds Try.pinned (OpenSpec.upto creaseEndsSpec)

/-- 'scorebooklaw12.CreaseKeeps', WHERE WHAT IT READS IS OF BULK AT MOST 1048576: true; the input reads as it did. -/
def creaseKeepsUptoRow : OpenClaim := { program := "ytjlmlafiojpjmaa", sum := "37c3944c0fa585fe8d1da999fd2908f77a3526fc6be6b365faf7cdab82ddf667", func := "scorebook/scorebooklaw12.CreaseKeeps", spec := "creaseKeeps", unfollowed := true, recurses := true, apart := false, narrowed := true }
def CreaseKeepsUptoSaid : Prop := creaseKeepsUptoRow.holds Try.pinned (OpenSpec.upto creaseKeepsSpec)

/-- 'scorebooklaw12.CreaseTwo', WHERE WHAT IT READS IS OF BULK AT MOST 1048576: true; the input reads as it did. -/
def creaseTwoUptoRow : OpenClaim := { program := "ytjlmlafiojpjmaa", sum := "37c3944c0fa585fe8d1da999fd2908f77a3526fc6be6b365faf7cdab82ddf667", func := "scorebook/scorebooklaw12.CreaseTwo", spec := "creaseTwo", unfollowed := true, recurses := true, apart := false, narrowed := true }
def CreaseTwoUptoSaid : Prop := creaseTwoUptoRow.holds Try.pinned (OpenSpec.upto creaseTwoSpec)

end Rows
end Go.Proofs.Ytjlmlafiojpjmaa
