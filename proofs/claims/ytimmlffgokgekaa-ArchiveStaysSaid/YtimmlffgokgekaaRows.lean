/-
  No cell of these rows narrows 'for every input' (looked for: loops, veiled, ifaces, maps, wideKeys, modest, calm, conditions, laid).
  DERIVED. THE GIVEN ROWS OF THIS SEAT. 5 by the template 'for every input the law returns true; each argument reads behind the call as it read before'; 0 by the template 'total and deterministic' (their statements: YtimmlffgokgekaaTotals.lean).
  GIVEN WITH THE SEED: the statements are not yours to turn. If you find one false, say at which input.
  Laid BY PROGRAM, IN A SANDBOX (cutbox-rows.mjs): the forced cells as the released guide's own fill.sh prints them over the translation 30e0c7089184b1c7… (all of the seat's roots in one cut). By AI agents, Wed Nov 11 2026. No macro, syntax, notation, axiom, sorry.
-/
import Derived.Test.YtimmlffgokgekaaChecked
import GoSem.Claim
import GoSem.ClaimJoined
import GoSem.ClaimMapViews
import Derived.JoinedTies
import Derived.KernelRfl
namespace Go.Proofs.Ytimmlffgokgekaa
/- THE CELL 'sum', in the pinned program and in every row, IS THE sha256 OF THE DUMP (.gsa) THAT YtimmlffgokgekaaProg.lean LOADS. Nothing in Lean hashes anything: it is a label: what it is worth is what the hold of that sum in a sandbox is worth. -/
noncomputable def Try.pinned : Pinned := { name := "ytimmlffgokgekaa", sum := "30e0c7089184b1c7bd9775bb213e6751d837e91dedc49121e4ccd2a438242a88", checked := Try.checked }
namespace Rows
def none {H : Type} : Left H := { results := [], args := [] }

/-- 'scorebooklaw58.ArchiveMerges': WHATEVER THE INPUT: true; the input reads as it did. -/
def archiveMergesSpec : ChangeSpec := { name := "archiveMerges", fn := fun _ => fun
  | [d1, d2, d3] => { results := [.lit (.bool true)], args := [d1, d2, d3] }
  | _ => none }
def archiveMergesRow : OpenClaim := { program := "ytimmlffgokgekaa", sum := "30e0c7089184b1c7bd9775bb213e6751d837e91dedc49121e4ccd2a438242a88", func := "scorebook/scorebooklaw58.ArchiveMerges", spec := "archiveMerges", inPlace := ["internal/bytealg.IndexByteString"], unfollowed := true, recurses := true, apart := false }
def ArchiveMergesSaid : Prop := archiveMergesRow.holds Try.pinned (OpenSpec.ofChange archiveMergesSpec)

/-- ITS FALSE NEIGHBOUR: 'it returns false'. Refute it at one input. -/
def archiveMergesWrong : ChangeSpec := { name := "archiveMerges", fn := fun _ => fun
  | [d1, d2, d3] => { results := [.lit (.bool false)], args := [d1, d2, d3] }
  | _ => none }
def ArchiveMergesWrongFalsely : Prop := archiveMergesRow.holds Try.pinned (OpenSpec.ofChange archiveMergesWrong)

/-- 'scorebooklaw58.ArchiveFiles': WHATEVER THE INPUT: true; the input reads as it did. -/
def archiveFilesSpec : ChangeSpec := { name := "archiveFiles", fn := fun _ => fun
  | [d1, d2] => { results := [.lit (.bool true)], args := [d1, d2] }
  | _ => none }
def archiveFilesRow : OpenClaim := { program := "ytimmlffgokgekaa", sum := "30e0c7089184b1c7bd9775bb213e6751d837e91dedc49121e4ccd2a438242a88", func := "scorebook/scorebooklaw58.ArchiveFiles", spec := "archiveFiles", inPlace := ["internal/bytealg.IndexByteString"], unfollowed := true, recurses := true, apart := false }
def ArchiveFilesSaid : Prop := archiveFilesRow.holds Try.pinned (OpenSpec.ofChange archiveFilesSpec)

/-- ITS FALSE NEIGHBOUR: 'it returns false'. Refute it at one input. -/
def archiveFilesWrong : ChangeSpec := { name := "archiveFiles", fn := fun _ => fun
  | [d1, d2] => { results := [.lit (.bool false)], args := [d1, d2] }
  | _ => none }
def ArchiveFilesWrongFalsely : Prop := archiveFilesRow.holds Try.pinned (OpenSpec.ofChange archiveFilesWrong)

/-- 'scorebooklaw58.ArchiveKeeps': WHATEVER THE INPUT: true; the input reads as it did. -/
def archiveKeepsSpec : ChangeSpec := { name := "archiveKeeps", fn := fun _ => fun
  | [d1, d2, d3] => { results := [.lit (.bool true)], args := [d1, d2, d3] }
  | _ => none }
def archiveKeepsRow : OpenClaim := { program := "ytimmlffgokgekaa", sum := "30e0c7089184b1c7bd9775bb213e6751d837e91dedc49121e4ccd2a438242a88", func := "scorebook/scorebooklaw58.ArchiveKeeps", spec := "archiveKeeps", inPlace := ["internal/bytealg.IndexByteString"], unfollowed := true, recurses := true, apart := false }
def ArchiveKeepsSaid : Prop := archiveKeepsRow.holds Try.pinned (OpenSpec.ofChange archiveKeepsSpec)

/-- ITS FALSE NEIGHBOUR: 'it returns false'. Refute it at one input. -/
def archiveKeepsWrong : ChangeSpec := { name := "archiveKeeps", fn := fun _ => fun
  | [d1, d2, d3] => { results := [.lit (.bool false)], args := [d1, d2, d3] }
  | _ => none }
def ArchiveKeepsWrongFalsely : Prop := archiveKeepsRow.holds Try.pinned (OpenSpec.ofChange archiveKeepsWrong)

/-- 'scorebooklaw58.ArchiveVersions': WHATEVER THE INPUT: true; the input reads as it did. -/
def archiveVersionsSpec : ChangeSpec := { name := "archiveVersions", fn := fun _ => fun
  | [d] => { results := [.lit (.bool true)], args := [d] }
  | _ => none }
def archiveVersionsRow : OpenClaim := { program := "ytimmlffgokgekaa", sum := "30e0c7089184b1c7bd9775bb213e6751d837e91dedc49121e4ccd2a438242a88", func := "scorebook/scorebooklaw58.ArchiveVersions", spec := "archiveVersions", inPlace := ["internal/bytealg.IndexByteString"], unfollowed := true, recurses := true, apart := false }
def ArchiveVersionsSaid : Prop := archiveVersionsRow.holds Try.pinned (OpenSpec.ofChange archiveVersionsSpec)

/-- ITS FALSE NEIGHBOUR: 'it returns false'. Refute it at one input. -/
def archiveVersionsWrong : ChangeSpec := { name := "archiveVersions", fn := fun _ => fun
  | [d] => { results := [.lit (.bool false)], args := [d] }
  | _ => none }
def ArchiveVersionsWrongFalsely : Prop := archiveVersionsRow.holds Try.pinned (OpenSpec.ofChange archiveVersionsWrong)

/-- 'scorebooklaw58.ArchiveStays': WHATEVER THE INPUT: true; the input reads as it did. -/
def archiveStaysSpec : ChangeSpec := { name := "archiveStays", fn := fun _ => fun
  | [d1, d2] => { results := [.lit (.bool true)], args := [d1, d2] }
  | _ => none }
def archiveStaysRow : OpenClaim := { program := "ytimmlffgokgekaa", sum := "30e0c7089184b1c7bd9775bb213e6751d837e91dedc49121e4ccd2a438242a88", func := "scorebook/scorebooklaw58.ArchiveStays", spec := "archiveStays", inPlace := ["internal/bytealg.IndexByteString"], unfollowed := true, recurses := true, apart := false }
def ArchiveStaysSaid : Prop := archiveStaysRow.holds Try.pinned (OpenSpec.ofChange archiveStaysSpec)

/-- ITS FALSE NEIGHBOUR: 'it returns false'. Refute it at one input. -/
def archiveStaysWrong : ChangeSpec := { name := "archiveStays", fn := fun _ => fun
  | [d1, d2] => { results := [.lit (.bool false)], args := [d1, d2] }
  | _ => none }
def ArchiveStaysWrongFalsely : Prop := archiveStaysRow.holds Try.pinned (OpenSpec.ofChange archiveStaysWrong)

/- THE SECOND FORM. 'bulk': how many values and letters a reading holds, each counted each time it is reached (what is shared counts as often as it is met; a slice's spare places count too). A statement '..UptoSaid' is the law's where the arguments, and the package variables that the reading takes, are together of bulk at most 1048576: NARROWER than '..Said'. Prove '..Said' where nothing that the law and all that it calls make is longer than what came in: it says more and counts as full. Else prove '..UptoSaid'. A law counts once. -/
mutual
def uptoBulk {H : Type} : DataW H → Nat
  | .lit (.string bytes) => bytes.length + 1
  | .lit _ => 1
  | .nil => 1
  | .ptr d => uptoBulk d + 1
  | .slice elems spare => uptoBulkAll elems + uptoBulkAll spare + 1
  | .agg parts => uptoBulkAll parts + 1
  | .iface _ d => uptoBulk d + 1
  | .map entries => uptoBulkEntries entries + 1
  | .held _ => 1
def uptoBulkAll {H : Type} : List (DataW H) → Nat
  | [] => 0
  | d :: r => uptoBulk d + uptoBulkAll r
def uptoBulkEntries {H : Type} : List (Lit × DataW H) → Nat
  | [] => 0
  | x :: r => uptoBulkEntry x + uptoBulkEntries r
def uptoBulkEntry {H : Type} : Lit × DataW H → Nat
  | (.string bytes, d) => bytes.length + uptoBulk d + 1
  | (_, d) => uptoBulk d + 1
 end
def uptoSmall : (H : Type) → List (DataW H) → Bool := fun _ ds => decide (uptoBulkAll ds ≤ 1048576)
def OpenSpec.upto (s : _root_.Go.ChangeSpec) : _root_.Go.OpenSpec := { _root_.Go.OpenSpec.ofChange s with cond := some uptoSmall }

/-- 'scorebooklaw58.ArchiveMerges', WHERE WHAT IT READS IS OF BULK AT MOST 1048576: true; the input reads as it did. -/
def archiveMergesUptoRow : OpenClaim := { program := "ytimmlffgokgekaa", sum := "30e0c7089184b1c7bd9775bb213e6751d837e91dedc49121e4ccd2a438242a88", func := "scorebook/scorebooklaw58.ArchiveMerges", spec := "archiveMerges", inPlace := ["internal/bytealg.IndexByteString"], unfollowed := true, recurses := true, apart := false, narrowed := true }
def ArchiveMergesUptoSaid : Prop := archiveMergesUptoRow.holds Try.pinned (OpenSpec.upto archiveMergesSpec)

/-- 'scorebooklaw58.ArchiveFiles', WHERE WHAT IT READS IS OF BULK AT MOST 1048576: true; the input reads as it did. -/
def archiveFilesUptoRow : OpenClaim := { program := "ytimmlffgokgekaa", sum := "30e0c7089184b1c7bd9775bb213e6751d837e91dedc49121e4ccd2a438242a88", func := "scorebook/scorebooklaw58.ArchiveFiles", spec := "archiveFiles", inPlace := ["internal/bytealg.IndexByteString"], unfollowed := true, recurses := true, apart := false, narrowed := true }
def ArchiveFilesUptoSaid : Prop := archiveFilesUptoRow.holds Try.pinned (OpenSpec.upto archiveFilesSpec)

/-- 'scorebooklaw58.ArchiveKeeps', WHERE WHAT IT READS IS OF BULK AT MOST 1048576: true; the input reads as it did. -/
def archiveKeepsUptoRow : OpenClaim := { program := "ytimmlffgokgekaa", sum := "30e0c7089184b1c7bd9775bb213e6751d837e91dedc49121e4ccd2a438242a88", func := "scorebook/scorebooklaw58.ArchiveKeeps", spec := "archiveKeeps", inPlace := ["internal/bytealg.IndexByteString"], unfollowed := true, recurses := true, apart := false, narrowed := true }
def ArchiveKeepsUptoSaid : Prop := archiveKeepsUptoRow.holds Try.pinned (OpenSpec.upto archiveKeepsSpec)

/-- 'scorebooklaw58.ArchiveVersions', WHERE WHAT IT READS IS OF BULK AT MOST 1048576: true; the input reads as it did. -/
def archiveVersionsUptoRow : OpenClaim := { program := "ytimmlffgokgekaa", sum := "30e0c7089184b1c7bd9775bb213e6751d837e91dedc49121e4ccd2a438242a88", func := "scorebook/scorebooklaw58.ArchiveVersions", spec := "archiveVersions", inPlace := ["internal/bytealg.IndexByteString"], unfollowed := true, recurses := true, apart := false, narrowed := true }
def ArchiveVersionsUptoSaid : Prop := archiveVersionsUptoRow.holds Try.pinned (OpenSpec.upto archiveVersionsSpec)

/-- 'scorebooklaw58.ArchiveStays', WHERE WHAT IT READS IS OF BULK AT MOST 1048576: true; the input reads as it did. -/
def archiveStaysUptoRow : OpenClaim := { program := "ytimmlffgokgekaa", sum := "30e0c7089184b1c7bd9775bb213e6751d837e91dedc49121e4ccd2a438242a88", func := "scorebook/scorebooklaw58.ArchiveStays", spec := "archiveStays", inPlace := ["internal/bytealg.IndexByteString"], unfollowed := true, recurses := true, apart := false, narrowed := true }
def ArchiveStaysUptoSaid : Prop := archiveStaysUptoRow.holds Try.pinned (OpenSpec.upto archiveStaysSpec)

end Rows
end Go.Proofs.Ytimmlffgokgekaa
