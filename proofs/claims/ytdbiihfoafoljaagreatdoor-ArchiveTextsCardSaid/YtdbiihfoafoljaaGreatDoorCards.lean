/-
  DERIVED. GIVEN WITH THE SEED: THE CARDS: each row of YtdbiihfoafoljaaGreatDoorRows.lean that lists a variable, with what it lists TIED to the program's text (the seventh form; the later family's looks); each row that meets fmt, with fmt's text TOLD by the authors' own Lean function (tested against real Go, not proved from fmt's source: count such statements apart). THE CARD IS WHAT COUNTS. Prove the row's statement (the work); the ties are given (YtdbiihfoafoljaaGreatDoorTie.lean); close each card by the builder's one call (the guide's Derived/Test/ToyasCard.lean, 'card_holds'). Laid BY PROGRAM, IN A SANDBOX (cutbox-door.mjs). By AI agents, Wed Nov 11 2026. No macro, syntax, notation, axiom, sorry.
-/
import Derived.Test.YtdbiihfoafoljaaGreatDoorRows
import GoSem.ClaimSeven
namespace Go.Proofs.YtdbiihfoafoljaaGreatDoor
namespace Rows

/-- THE TIED CARD OF 'scorebooklaw58.ArchiveTexts'. -/
def archiveTextsCard : Claim7 := { stood := { row := archiveTextsRow, standIns := [], harness := (true, "0331586474b2e4aaa2c10f9b8a697945a6eca22c85ddca6d72ec06ef3434f05f"), looks := true }, kinds := [], alts := [], laidByText := true, laidKinds := [.data, .data, .data, .data, .sentinel, .sentinel, .pinned], laidTests := true, laidLooks := .later }
def ArchiveTextsCardSaid : Prop := Claim7.holds Tryz.pinned (.plain (OpenSpec.ofChange archiveTextsSpec)) archiveTextsCard

/-- THE TIED CARD OF 'scorebooklaw58.ArchiveParses'. -/
def archiveParsesCard : Claim7 := { stood := { row := archiveParsesRow, standIns := [], harness := (true, "0331586474b2e4aaa2c10f9b8a697945a6eca22c85ddca6d72ec06ef3434f05f"), looks := true }, kinds := [], alts := [], laidByText := true, laidKinds := [.data, .data, .data, .data, .sentinel, .sentinel, .pinned], laidTests := true, laidLooks := .later }
def ArchiveParsesCardSaid : Prop := Claim7.holds Tryz.pinned (.plain (OpenSpec.ofChange archiveParsesSpec)) archiveParsesCard

/-- THE SECOND FORM's CARD OF 'scorebooklaw58.ArchiveTexts'. -/
def archiveTextsUptoCard : Claim7 := { stood := { row := archiveTextsUptoRow, standIns := [], harness := (true, "0331586474b2e4aaa2c10f9b8a697945a6eca22c85ddca6d72ec06ef3434f05f"), looks := true }, kinds := [], alts := [], laidByText := true, laidKinds := [.data, .data, .data, .data, .sentinel, .sentinel, .pinned], laidTests := true, laidLooks := .later }
def ArchiveTextsUptoCardSaid : Prop := Claim7.holds Tryz.pinned (.plain (OpenSpec.upto archiveTextsSpec)) archiveTextsUptoCard

/-- THE SECOND FORM's CARD OF 'scorebooklaw58.ArchiveParses'. -/
def archiveParsesUptoCard : Claim7 := { stood := { row := archiveParsesUptoRow, standIns := [], harness := (true, "0331586474b2e4aaa2c10f9b8a697945a6eca22c85ddca6d72ec06ef3434f05f"), looks := true }, kinds := [], alts := [], laidByText := true, laidKinds := [.data, .data, .data, .data, .sentinel, .sentinel, .pinned], laidTests := true, laidLooks := .later }
def ArchiveParsesUptoCardSaid : Prop := Claim7.holds Tryz.pinned (.plain (OpenSpec.upto archiveParsesSpec)) archiveParsesUptoCard
end Rows
end Go.Proofs.YtdbiihfoafoljaaGreatDoor
