/-
  DERIVED. GIVEN WITH THE SEED: THE CARDS: each row of YtpninpohligomaaGreatDoorRows.lean that lists a variable, with what it lists TIED to the program's text (the seventh form; the later family's looks); each row that meets fmt, with fmt's text TOLD by the authors' own Lean function (tested against real Go, not proved from fmt's source: count such statements apart). THE CARD IS WHAT COUNTS. Prove the row's statement (the work); the ties are given (YtpninpohligomaaGreatDoorTie.lean); close each card by the builder's one call (the guide's Derived/Test/ToyasCard.lean, 'card_holds'). Laid BY PROGRAM, IN A SANDBOX (cutbox-door.mjs). By AI agents, Wed Nov 11 2026. No macro, syntax, notation, axiom, sorry.
-/
import Derived.Test.YtpninpohligomaaGreatDoorRows
import GoSem.ClaimSeven
namespace Go.Proofs.YtpninpohligomaaGreatDoor
namespace Rows

/-- THE TIED CARD OF 'scorebooklaw56.ConductTexts'. -/
def conductTextsCard : Claim7 := { stood := { row := conductTextsRow, standIns := [], harness := (true, "a05c154509f7ca2e923ccde5c5e314621f14e066fc44f294f6ad0e9dba301f34"), looks := true }, kinds := [], alts := [], laidByText := true, laidKinds := [.data, .data, .data, .data, .sentinel, .sentinel, .pinned], laidTests := true, laidLooks := .later }
def ConductTextsCardSaid : Prop := Claim7.holds Tryz.pinned (.plain (OpenSpec.ofChange conductTextsSpec)) conductTextsCard

/-- THE TIED CARD OF 'scorebooklaw56.ConductParses'. -/
def conductParsesCard : Claim7 := { stood := { row := conductParsesRow, standIns := [], harness := (true, "a05c154509f7ca2e923ccde5c5e314621f14e066fc44f294f6ad0e9dba301f34"), looks := true }, kinds := [], alts := [], laidByText := true, laidKinds := [.data, .data, .data, .data, .sentinel, .sentinel, .pinned], laidTests := true, laidLooks := .later }
def ConductParsesCardSaid : Prop := Claim7.holds Tryz.pinned (.plain (OpenSpec.ofChange conductParsesSpec)) conductParsesCard

/-- THE TIED CARD OF 'scorebooklaw54.RegisterTexts'. -/
def registerTextsCard : Claim7 := { stood := { row := registerTextsRow, standIns := [], harness := (true, "a05c154509f7ca2e923ccde5c5e314621f14e066fc44f294f6ad0e9dba301f34"), looks := true }, kinds := [], alts := [], laidByText := true, laidKinds := [.data, .data, .data, .data, .sentinel, .sentinel, .pinned], laidTests := true, laidLooks := .later }
def RegisterTextsCardSaid : Prop := Claim7.holds Tryz.pinned (.plain (OpenSpec.ofChange registerTextsSpec)) registerTextsCard

/-- THE TIED CARD OF 'scorebooklaw54.RegisterParses'. -/
def registerParsesCard : Claim7 := { stood := { row := registerParsesRow, standIns := [], harness := (true, "a05c154509f7ca2e923ccde5c5e314621f14e066fc44f294f6ad0e9dba301f34"), looks := true }, kinds := [], alts := [], laidByText := true, laidKinds := [.data, .data, .data, .data, .sentinel, .sentinel, .pinned], laidTests := true, laidLooks := .later }
def RegisterParsesCardSaid : Prop := Claim7.holds Tryz.pinned (.plain (OpenSpec.ofChange registerParsesSpec)) registerParsesCard

/-- THE SECOND FORM's CARD OF 'scorebooklaw56.ConductTexts'. -/
def conductTextsUptoCard : Claim7 := { stood := { row := conductTextsUptoRow, standIns := [], harness := (true, "a05c154509f7ca2e923ccde5c5e314621f14e066fc44f294f6ad0e9dba301f34"), looks := true }, kinds := [], alts := [], laidByText := true, laidKinds := [.data, .data, .data, .data, .sentinel, .sentinel, .pinned], laidTests := true, laidLooks := .later }
def ConductTextsUptoCardSaid : Prop := Claim7.holds Tryz.pinned (.plain (OpenSpec.upto conductTextsSpec)) conductTextsUptoCard

/-- THE SECOND FORM's CARD OF 'scorebooklaw56.ConductParses'. -/
def conductParsesUptoCard : Claim7 := { stood := { row := conductParsesUptoRow, standIns := [], harness := (true, "a05c154509f7ca2e923ccde5c5e314621f14e066fc44f294f6ad0e9dba301f34"), looks := true }, kinds := [], alts := [], laidByText := true, laidKinds := [.data, .data, .data, .data, .sentinel, .sentinel, .pinned], laidTests := true, laidLooks := .later }
def ConductParsesUptoCardSaid : Prop := Claim7.holds Tryz.pinned (.plain (OpenSpec.upto conductParsesSpec)) conductParsesUptoCard

/-- THE SECOND FORM's CARD OF 'scorebooklaw54.RegisterTexts'. -/
def registerTextsUptoCard : Claim7 := { stood := { row := registerTextsUptoRow, standIns := [], harness := (true, "a05c154509f7ca2e923ccde5c5e314621f14e066fc44f294f6ad0e9dba301f34"), looks := true }, kinds := [], alts := [], laidByText := true, laidKinds := [.data, .data, .data, .data, .sentinel, .sentinel, .pinned], laidTests := true, laidLooks := .later }
def RegisterTextsUptoCardSaid : Prop := Claim7.holds Tryz.pinned (.plain (OpenSpec.upto registerTextsSpec)) registerTextsUptoCard

/-- THE SECOND FORM's CARD OF 'scorebooklaw54.RegisterParses'. -/
def registerParsesUptoCard : Claim7 := { stood := { row := registerParsesUptoRow, standIns := [], harness := (true, "a05c154509f7ca2e923ccde5c5e314621f14e066fc44f294f6ad0e9dba301f34"), looks := true }, kinds := [], alts := [], laidByText := true, laidKinds := [.data, .data, .data, .data, .sentinel, .sentinel, .pinned], laidTests := true, laidLooks := .later }
def RegisterParsesUptoCardSaid : Prop := Claim7.holds Tryz.pinned (.plain (OpenSpec.upto registerParsesSpec)) registerParsesUptoCard
end Rows
end Go.Proofs.YtpninpohligomaaGreatDoor
