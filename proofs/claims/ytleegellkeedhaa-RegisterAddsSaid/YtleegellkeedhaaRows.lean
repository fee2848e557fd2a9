/-
  No cell of these rows narrows 'for every input' (looked for: loops, veiled, ifaces, maps, wideKeys, modest, calm, conditions, laid).
  DERIVED. THE GIVEN ROWS OF THIS SEAT. 5 by the template 'for every input the law returns true; each argument reads behind the call as it read before'; 0 by the template 'total and deterministic' (their statements: YtleegellkeedhaaTotals.lean).
  GIVEN WITH THE SEED: the statements are not yours to turn. If you find one false, say at which input.
  Laid BY PROGRAM, IN A SANDBOX (cutbox-rows.mjs): the forced cells as the released guide's own fill.sh prints them over the translation c00b06cbe3c51595… (all of the seat's roots in one cut). By AI agents, Wed Nov 11 2026. No macro, syntax, notation, axiom, sorry.
-/
import Derived.Test.YtleegellkeedhaaChecked
import GoSem.Claim
import GoSem.ClaimJoined
import GoSem.ClaimMapViews
import Derived.JoinedTies
import Derived.KernelRfl
namespace Go.Proofs.Ytleegellkeedhaa
/- THE CELL 'sum', in the pinned program and in every row, IS THE sha256 OF THE DUMP (.gsa) THAT YtleegellkeedhaaProg.lean LOADS. Nothing in Lean hashes anything: it is a label: what it is worth is what the hold of that sum in a sandbox is worth. -/
noncomputable def Try.pinned : Pinned := { name := "ytleegellkeedhaa", sum := "c00b06cbe3c515954c23eddaf8e0e03cff84e11fb84eacc6a2fb7ebea932508a", checked := Try.checked }
namespace Rows
def none {H : Type} : Left H := { results := [], args := [] }

/-- 'scorebooklaw54.RegisterChecks': WHATEVER THE INPUT: true; the input reads as it did. -/
def registerChecksSpec : ChangeSpec := { name := "registerChecks", fn := fun _ => fun
  | [d] => { results := [.lit (.bool true)], args := [d] }
  | _ => none }
def registerChecksRow : OpenClaim := { program := "ytleegellkeedhaa", sum := "c00b06cbe3c515954c23eddaf8e0e03cff84e11fb84eacc6a2fb7ebea932508a", func := "scorebook/scorebooklaw54.RegisterChecks", spec := "registerChecks", unfollowed := true, recurses := true, apart := false }
def RegisterChecksSaid : Prop := registerChecksRow.holds Try.pinned (OpenSpec.ofChange registerChecksSpec)

/-- ITS FALSE NEIGHBOUR: 'it returns false'. Refute it at one input. -/
def registerChecksWrong : ChangeSpec := { name := "registerChecks", fn := fun _ => fun
  | [d] => { results := [.lit (.bool false)], args := [d] }
  | _ => none }
def RegisterChecksWrongFalsely : Prop := registerChecksRow.holds Try.pinned (OpenSpec.ofChange registerChecksWrong)

/-- 'scorebooklaw54.RegisterSettles': WHATEVER THE INPUT: true; the input reads as it did. -/
def registerSettlesSpec : ChangeSpec := { name := "registerSettles", fn := fun _ => fun
  | [d1, d2] => { results := [.lit (.bool true)], args := [d1, d2] }
  | _ => none }
def registerSettlesRow : OpenClaim := { program := "ytleegellkeedhaa", sum := "c00b06cbe3c515954c23eddaf8e0e03cff84e11fb84eacc6a2fb7ebea932508a", func := "scorebook/scorebooklaw54.RegisterSettles", spec := "registerSettles", unfollowed := true, recurses := true, apart := false }
def RegisterSettlesSaid : Prop := registerSettlesRow.holds Try.pinned (OpenSpec.ofChange registerSettlesSpec)

/-- ITS FALSE NEIGHBOUR: 'it returns false'. Refute it at one input. -/
def registerSettlesWrong : ChangeSpec := { name := "registerSettles", fn := fun _ => fun
  | [d1, d2] => { results := [.lit (.bool false)], args := [d1, d2] }
  | _ => none }
def RegisterSettlesWrongFalsely : Prop := registerSettlesRow.holds Try.pinned (OpenSpec.ofChange registerSettlesWrong)

/-- 'scorebooklaw54.RegisterStays': WHATEVER THE INPUT: true; the input reads as it did. -/
def registerStaysSpec : ChangeSpec := { name := "registerStays", fn := fun _ => fun
  | [d1, d2, d3] => { results := [.lit (.bool true)], args := [d1, d2, d3] }
  | _ => none }
def registerStaysRow : OpenClaim := { program := "ytleegellkeedhaa", sum := "c00b06cbe3c515954c23eddaf8e0e03cff84e11fb84eacc6a2fb7ebea932508a", func := "scorebook/scorebooklaw54.RegisterStays", spec := "registerStays", unfollowed := true, recurses := true, apart := false }
def RegisterStaysSaid : Prop := registerStaysRow.holds Try.pinned (OpenSpec.ofChange registerStaysSpec)

/-- ITS FALSE NEIGHBOUR: 'it returns false'. Refute it at one input. -/
def registerStaysWrong : ChangeSpec := { name := "registerStays", fn := fun _ => fun
  | [d1, d2, d3] => { results := [.lit (.bool false)], args := [d1, d2, d3] }
  | _ => none }
def RegisterStaysWrongFalsely : Prop := registerStaysRow.holds Try.pinned (OpenSpec.ofChange registerStaysWrong)

/-- 'scorebooklaw54.RegisterAdds': WHATEVER THE INPUT: true; the input reads as it did. -/
def registerAddsSpec : ChangeSpec := { name := "registerAdds", fn := fun _ => fun
  | [d1, d2] => { results := [.lit (.bool true)], args := [d1, d2] }
  | _ => none }
def registerAddsRow : OpenClaim := { program := "ytleegellkeedhaa", sum := "c00b06cbe3c515954c23eddaf8e0e03cff84e11fb84eacc6a2fb7ebea932508a", func := "scorebook/scorebooklaw54.RegisterAdds", spec := "registerAdds", unfollowed := true, recurses := true, apart := false }
def RegisterAddsSaid : Prop := registerAddsRow.holds Try.pinned (OpenSpec.ofChange registerAddsSpec)

/-- ITS FALSE NEIGHBOUR: 'it returns false'. Refute it at one input. -/
def registerAddsWrong : ChangeSpec := { name := "registerAdds", fn := fun _ => fun
  | [d1, d2] => { results := [.lit (.bool false)], args := [d1, d2] }
  | _ => none }
def RegisterAddsWrongFalsely : Prop := registerAddsRow.holds Try.pinned (OpenSpec.ofChange registerAddsWrong)

/-- 'scorebooklaw54.RegisterOnce': WHATEVER THE INPUT: true; the input reads as it did. -/
def registerOnceSpec : ChangeSpec := { name := "registerOnce", fn := fun _ => fun
  | [d1, d2] => { results := [.lit (.bool true)], args := [d1, d2] }
  | _ => none }
def registerOnceRow : OpenClaim := { program := "ytleegellkeedhaa", sum := "c00b06cbe3c515954c23eddaf8e0e03cff84e11fb84eacc6a2fb7ebea932508a", func := "scorebook/scorebooklaw54.RegisterOnce", spec := "registerOnce", unfollowed := true, recurses := true, apart := false }
def RegisterOnceSaid : Prop := registerOnceRow.holds Try.pinned (OpenSpec.ofChange registerOnceSpec)

/-- ITS FALSE NEIGHBOUR: 'it returns false'. Refute it at one input. -/
def registerOnceWrong : ChangeSpec := { name := "registerOnce", fn := fun _ => fun
  | [d1, d2] => { results := [.lit (.bool false)], args := [d1, d2] }
  | _ => none }
def RegisterOnceWrongFalsely : Prop := registerOnceRow.holds Try.pinned (OpenSpec.ofChange registerOnceWrong)

/- THE SECOND FORM. 'bulk': how many values and letters a reading holds, each counted each time it is reached (what is shared counts as often as it is met; a slice's spare places count too). A statement '..UptoSaid' is the law's where the arguments, and the package variables that the reading takes, are together of bulk at most 1048576: NARROWER than '..Said'. Prove '..Said' where nothing that the law and all that it calls make is longer than what came in: it says more and counts as full. Else prove '..UptoSaid'. A law counts once. -/
mutual
def uptoBulk {H : Type} : DataW H → Nat
  | .lit (.string bytes) => bytes.length + 1
  | .lit _ => 1
  | .nil => 1
  | .ptr d => uptoBulk d + 1
  | .slice elems spare => uptoBulkAll elems + uptoBulkAll spare + 1
  | .agg parts => uptoBulkAll parts + 1
  | .iface _ d => uptoBulk d + 1
  | .map entries => uptoBulkEntries entries + 1
  | .held _ => 1
def uptoBulkAll {H : Type} : List (DataW H) → Nat
  | [] => 0
  | d :: r => uptoBulk d + uptoBulkAll r
def uptoBulkEntries {H : Type} : List (Lit × DataW H) → Nat
  | [] => 0
  | x :: r => uptoBulkEntry x + uptoBulkEntries r
def uptoBulkEntry {H : Type} : Lit × DataW H → Nat
  | (.string bytes, d) => bytes.length + uptoBulk d + 1
  | (_, d) => uptoBulk d + 1
 end
def uptoSmall : (H : Type) → List (DataW H) → Bool := fun _ ds => decide (uptoBulkAll ds ≤ 1048576)
def OpenSpec.upto (s : _root_.Go.ChangeSpec) : _root_.Go.OpenSpec := { _root_.Go.OpenSpec.ofChange s with cond := some uptoSmall }

/-- 'scorebooklaw54.RegisterChecks', WHERE WHAT IT READS IS OF BULK AT MOST 1048576: true; the input reads as it did. -/
def registerChecksUptoRow : OpenClaim := { program := "ytleegellkeedhaa", sum := "c00b06cbe3c515954c23eddaf8e0e03cff84e11fb84eacc6a2fb7ebea932508a", func := "scorebook/scorebooklaw54.RegisterChecks", spec := "registerChecks", unfollowed := true, recurses := true, apart := false, narrowed := true }
def RegisterChecksUptoSaid : Prop := registerChecksUptoRow.holds Try.pinned (OpenSpec.upto registerChecksSpec)

/-- 'scorebooklaw54.RegisterSettles', WHERE WHAT IT READS IS OF BULK AT MOST 1048576: true; the input reads as it did. -/
def registerSettlesUptoRow : OpenClaim := { program := "ytleegellkeedhaa", sum := "c00b06cbe3c515954c23eddaf8e0e03cff84e11fb84eacc6a2fb7ebea932508a", func := "scorebook/scorebooklaw54.RegisterSettles", spec := "registerSettles", unfollowed := true, recurses := true, apart := false, narrowed := true }
def RegisterSettlesUptoSaid : Prop := registerSettlesUptoRow.holds Try.pinned (OpenSpec.upto registerSettlesSpec)

/-- 'scorebooklaw54.RegisterStays', WHERE WHAT IT READS IS OF BULK AT MOST 1048576: true; the input reads as it did. -/
def registerStaysUptoRow : OpenClaim := { program := "ytleegellkeedhaa", sum := "c00b06cbe3c515954c23eddaf8e0e03cff84e11fb84eacc6a2fb7ebea932508a", func := "scorebook/scorebooklaw54.RegisterStays", spec := "registerStays", unfollowed := true, recurses := true, apart := false, narrowed := true }
def RegisterStaysUptoSaid : Prop := registerStaysUptoRow.holds Try.pinned (OpenSpec.upto registerStaysSpec)

/-- 'scorebooklaw54.RegisterAdds', WHERE WHAT IT READS IS OF BULK AT MOST 1048576: true; the input reads as it did. -/
def registerAddsUptoRow : OpenClaim := { program := "ytleegellkeedhaa", sum := "c00b06cbe3c515954c23eddaf8e0e03cff84e11fb84eacc6a2fb7ebea932508a", func := "scorebook/scorebooklaw54.RegisterAdds", spec := "registerAdds", unfollowed := true, recurses := true, apart := false, narrowed := true }
def RegisterAddsUptoSaid : Prop := registerAddsUptoRow.holds Try.pinned (OpenSpec.upto registerAddsSpec)

/-- 'scorebooklaw54.RegisterOnce', WHERE WHAT IT READS IS OF BULK AT MOST 1048576: true; the input reads as it did. -/
def registerOnceUptoRow : OpenClaim := { program := "ytleegellkeedhaa", sum := "c00b06cbe3c515954c23eddaf8e0e03cff84e11fb84eacc6a2fb7ebea932508a", func := "scorebook/scorebooklaw54.RegisterOnce", spec := "registerOnce", unfollowed := true, recurses := true, apart := false, narrowed := true }
def RegisterOnceUptoSaid : Prop := registerOnceUptoRow.holds Try.pinned (OpenSpec.upto registerOnceSpec)

end Rows
end Go.Proofs.Ytleegellkeedhaa
