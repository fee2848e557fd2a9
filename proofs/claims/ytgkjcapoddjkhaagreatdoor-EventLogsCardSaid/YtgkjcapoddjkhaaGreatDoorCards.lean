/-
  DERIVED. GIVEN WITH THE SEED: THE CARDS: each row of YtgkjcapoddjkhaaGreatDoorRows.lean that lists a variable, with what it lists TIED to the program's text (the seventh form; the later family's looks); each row that meets fmt, with fmt's text TOLD by the authors' own Lean function (tested against real Go, not proved from fmt's source: count such statements apart). THE CARD IS WHAT COUNTS. Prove the row's statement (the work); the ties are given (YtgkjcapoddjkhaaGreatDoorTie.lean); close each card by the builder's one call (the guide's Derived/Test/ToyasCard.lean, 'card_holds'). Laid BY PROGRAM, IN A SANDBOX (cutbox-door.mjs). By AI agents, Wed Nov 11 2026. No macro, syntax, notation, axiom, sorry.
-/
import Derived.Test.YtgkjcapoddjkhaaGreatDoorRows
import GoSem.ClaimSeven
namespace Go.Proofs.YtgkjcapoddjkhaaGreatDoor
namespace Rows

/-- THE TIED CARD OF 'scorebooklaw08.EventTexts'. -/
def eventTextsCard : Claim7 := { stood := { row := eventTextsRow, standIns := [], harness := (true, "b2f0aee11716f1a1bd9b23f2bce5201b2fa35e07d4684ef96b07bdb3f5059208"), looks := true }, kinds := [], alts := [], laidByText := true, laidKinds := [.data, .data, .data, .data, .sentinel, .sentinel, .pinned], laidTests := true, laidLooks := .later }
def EventTextsCardSaid : Prop := Claim7.holds Tryz.pinned (.plain (OpenSpec.ofChange eventTextsSpec)) eventTextsCard

/-- THE TIED CARD OF 'scorebooklaw08.EventParses'. -/
def eventParsesCard : Claim7 := { stood := { row := eventParsesRow, standIns := [], harness := (true, "b2f0aee11716f1a1bd9b23f2bce5201b2fa35e07d4684ef96b07bdb3f5059208"), looks := true }, kinds := [], alts := [], laidByText := true, laidKinds := [.data, .data, .data, .data, .sentinel, .sentinel, .pinned], laidTests := true, laidLooks := .later }
def EventParsesCardSaid : Prop := Claim7.holds Tryz.pinned (.plain (OpenSpec.ofChange eventParsesSpec)) eventParsesCard

/-- THE TIED CARD OF 'scorebooklaw08.EventBack'. -/
def eventBackCard : Claim7 := { stood := { row := eventBackRow, standIns := [], harness := (true, "b2f0aee11716f1a1bd9b23f2bce5201b2fa35e07d4684ef96b07bdb3f5059208"), looks := true }, kinds := [], alts := [], laidByText := true, laidKinds := [.data, .data, .data, .data, .sentinel, .sentinel, .pinned], laidTests := true, laidLooks := .later }
def EventBackCardSaid : Prop := Claim7.holds Tryz.pinned (.plain (OpenSpec.ofChange eventBackSpec)) eventBackCard

/-- THE TIED CARD OF 'scorebooklaw08.EventLogs'. -/
def eventLogsCard : Claim7 := { stood := { row := eventLogsRow, standIns := [], harness := (true, "b2f0aee11716f1a1bd9b23f2bce5201b2fa35e07d4684ef96b07bdb3f5059208"), looks := true }, kinds := [], alts := [], laidByText := true, laidKinds := [.data, .data, .data, .data, .sentinel, .sentinel, .pinned], laidTests := true, laidLooks := .later }
def EventLogsCardSaid : Prop := Claim7.holds Tryz.pinned (.plain (OpenSpec.ofChange eventLogsSpec)) eventLogsCard

/-- THE TIED CARD OF 'scorebooklaw08.EventLimits'. -/
def eventLimitsCard : Claim7 := { stood := { row := eventLimitsRow, standIns := [], harness := (true, "b2f0aee11716f1a1bd9b23f2bce5201b2fa35e07d4684ef96b07bdb3f5059208"), looks := true }, kinds := [], alts := [], laidByText := true, laidKinds := [.data, .data, .data, .data, .sentinel, .sentinel, .pinned], laidTests := true, laidLooks := .later }
def EventLimitsCardSaid : Prop := Claim7.holds Tryz.pinned (.plain (OpenSpec.ofChange eventLimitsSpec)) eventLimitsCard

/-- THE TIED CARD OF 'scorebooklaw08.EventLogBack'. -/
def eventLogBackCard : Claim7 := { stood := { row := eventLogBackRow, standIns := [], harness := (true, "b2f0aee11716f1a1bd9b23f2bce5201b2fa35e07d4684ef96b07bdb3f5059208"), looks := true }, kinds := [], alts := [], laidByText := true, laidKinds := [.data, .data, .data, .data, .sentinel, .sentinel, .pinned], laidTests := true, laidLooks := .later }
def EventLogBackCardSaid : Prop := Claim7.holds Tryz.pinned (.plain (OpenSpec.ofChange eventLogBackSpec)) eventLogBackCard

/-- THE SECOND FORM's CARD OF 'scorebooklaw08.EventTexts'. -/
def eventTextsUptoCard : Claim7 := { stood := { row := eventTextsUptoRow, standIns := [], harness := (true, "b2f0aee11716f1a1bd9b23f2bce5201b2fa35e07d4684ef96b07bdb3f5059208"), looks := true }, kinds := [], alts := [], laidByText := true, laidKinds := [.data, .data, .data, .data, .sentinel, .sentinel, .pinned], laidTests := true, laidLooks := .later }
def EventTextsUptoCardSaid : Prop := Claim7.holds Tryz.pinned (.plain (OpenSpec.upto eventTextsSpec)) eventTextsUptoCard

/-- THE SECOND FORM's CARD OF 'scorebooklaw08.EventParses'. -/
def eventParsesUptoCard : Claim7 := { stood := { row := eventParsesUptoRow, standIns := [], harness := (true, "b2f0aee11716f1a1bd9b23f2bce5201b2fa35e07d4684ef96b07bdb3f5059208"), looks := true }, kinds := [], alts := [], laidByText := true, laidKinds := [.data, .data, .data, .data, .sentinel, .sentinel, .pinned], laidTests := true, laidLooks := .later }
def EventParsesUptoCardSaid : Prop := Claim7.holds Tryz.pinned (.plain (OpenSpec.upto eventParsesSpec)) eventParsesUptoCard

/-- THE SECOND FORM's CARD OF 'scorebooklaw08.EventBack'. -/
def eventBackUptoCard : Claim7 := { stood := { row := eventBackUptoRow, standIns := [], harness := (true, "b2f0aee11716f1a1bd9b23f2bce5201b2fa35e07d4684ef96b07bdb3f5059208"), looks := true }, kinds := [], alts := [], laidByText := true, laidKinds := [.data, .data, .data, .data, .sentinel, .sentinel, .pinned], laidTests := true, laidLooks := .later }
def EventBackUptoCardSaid : Prop := Claim7.holds Tryz.pinned (.plain (OpenSpec.upto eventBackSpec)) eventBackUptoCard

/-- THE SECOND FORM's CARD OF 'scorebooklaw08.EventLogs'. -/
def eventLogsUptoCard : Claim7 := { stood := { row := eventLogsUptoRow, standIns := [], harness := (true, "b2f0aee11716f1a1bd9b23f2bce5201b2fa35e07d4684ef96b07bdb3f5059208"), looks := true }, kinds := [], alts := [], laidByText := true, laidKinds := [.data, .data, .data, .data, .sentinel, .sentinel, .pinned], laidTests := true, laidLooks := .later }
def EventLogsUptoCardSaid : Prop := Claim7.holds Tryz.pinned (.plain (OpenSpec.upto eventLogsSpec)) eventLogsUptoCard

/-- THE SECOND FORM's CARD OF 'scorebooklaw08.EventLimits'. -/
def eventLimitsUptoCard : Claim7 := { stood := { row := eventLimitsUptoRow, standIns := [], harness := (true, "b2f0aee11716f1a1bd9b23f2bce5201b2fa35e07d4684ef96b07bdb3f5059208"), looks := true }, kinds := [], alts := [], laidByText := true, laidKinds := [.data, .data, .data, .data, .sentinel, .sentinel, .pinned], laidTests := true, laidLooks := .later }
def EventLimitsUptoCardSaid : Prop := Claim7.holds Tryz.pinned (.plain (OpenSpec.upto eventLimitsSpec)) eventLimitsUptoCard

/-- THE SECOND FORM's CARD OF 'scorebooklaw08.EventLogBack'. -/
def eventLogBackUptoCard : Claim7 := { stood := { row := eventLogBackUptoRow, standIns := [], harness := (true, "b2f0aee11716f1a1bd9b23f2bce5201b2fa35e07d4684ef96b07bdb3f5059208"), looks := true }, kinds := [], alts := [], laidByText := true, laidKinds := [.data, .data, .data, .data, .sentinel, .sentinel, .pinned], laidTests := true, laidLooks := .later }
def EventLogBackUptoCardSaid : Prop := Claim7.holds Tryz.pinned (.plain (OpenSpec.upto eventLogBackSpec)) eventLogBackUptoCard
end Rows
end Go.Proofs.YtgkjcapoddjkhaaGreatDoor
