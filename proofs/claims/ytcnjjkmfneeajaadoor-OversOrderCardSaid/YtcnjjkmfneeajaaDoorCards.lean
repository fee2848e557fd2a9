/-
  DERIVED. GIVEN WITH THE SEED: THE CARDS: each row of YtcnjjkmfneeajaaDoorRows.lean that lists a variable, with what it lists TIED to the program's text (the seventh form; the later family's looks); each row that meets fmt, with fmt's text TOLD by the authors' own Lean function (tested against real Go, not proved from fmt's source: count such statements apart). THE CARD IS WHAT COUNTS. Prove the row's statement (the work); the ties are given (YtcnjjkmfneeajaaDoorTie.lean); close each card by the builder's one call (the guide's Derived/Test/ToyasCard.lean, 'card_holds'). Laid BY PROGRAM, IN A SANDBOX (cutbox-door.mjs). By AI agents, Wed Nov 11 2026. No macro, syntax, notation, axiom, sorry.
-/
import Derived.Test.YtcnjjkmfneeajaaDoorRows
import GoSem.ClaimSeven
namespace Go.Proofs.YtcnjjkmfneeajaaDoor
namespace Rows

/-- THE TIED CARD OF 'scorebooklaw04.OversTexts'. -/
def oversTextsCard : Claim7 := { stood := { row := oversTextsRow, standIns := [], harness := (true, "7cd94553c12a27fb6f12044ae7c1029f727f85f943a5d00d6f8c7c6766be0cd2"), looks := true }, kinds := [], alts := [], laidByText := true, laidKinds := [.data, .data, .data, .data, .sentinel, .sentinel, .pinned], laidTests := true, laidLooks := .later }
def OversTextsCardSaid : Prop := Claim7.holds Tryd.pinned (.plain (OpenSpec.ofChange oversTextsSpec)) oversTextsCard

/-- THE TIED CARD OF 'scorebooklaw04.OversCompares'. -/
def oversComparesCard : Claim7 := { stood := { row := oversComparesRow, standIns := [], harness := (true, "7cd94553c12a27fb6f12044ae7c1029f727f85f943a5d00d6f8c7c6766be0cd2"), looks := true }, kinds := [], alts := [], laidByText := true, laidKinds := [.data, .data, .data, .data, .sentinel, .sentinel, .pinned], laidTests := true, laidLooks := .later }
def OversComparesCardSaid : Prop := Claim7.holds Tryd.pinned (.plain (OpenSpec.ofChange oversComparesSpec)) oversComparesCard

/-- THE TIED CARD OF 'scorebooklaw04.OversBalls'. -/
def oversBallsCard : Claim7 := { stood := { row := oversBallsRow, standIns := [], harness := (true, "7cd94553c12a27fb6f12044ae7c1029f727f85f943a5d00d6f8c7c6766be0cd2"), looks := true }, kinds := [], alts := [], laidByText := true, laidKinds := [.data, .data, .data, .data, .sentinel, .sentinel, .pinned], laidTests := true, laidLooks := .later }
def OversBallsCardSaid : Prop := Claim7.holds Tryd.pinned (.plain (OpenSpec.ofChange oversBallsSpec)) oversBallsCard

/-- THE TIED CARD OF 'scorebooklaw04.OversBack'. -/
def oversBackCard : Claim7 := { stood := { row := oversBackRow, standIns := [], harness := (true, "7cd94553c12a27fb6f12044ae7c1029f727f85f943a5d00d6f8c7c6766be0cd2"), looks := true }, kinds := [], alts := [], laidByText := true, laidKinds := [.data, .data, .data, .data, .sentinel, .sentinel, .pinned], laidTests := true, laidLooks := .later }
def OversBackCardSaid : Prop := Claim7.holds Tryd.pinned (.plain (OpenSpec.ofChange oversBackSpec)) oversBackCard

/-- THE TIED CARD OF 'scorebooklaw04.OversOrder'. -/
def oversOrderCard : Claim7 := { stood := { row := oversOrderRow, standIns := [], harness := (true, "7cd94553c12a27fb6f12044ae7c1029f727f85f943a5d00d6f8c7c6766be0cd2"), looks := true }, kinds := [], alts := [], laidByText := true, laidKinds := [.data, .data, .data, .data, .sentinel, .sentinel, .pinned], laidTests := true, laidLooks := .later }
def OversOrderCardSaid : Prop := Claim7.holds Tryd.pinned (.plain (OpenSpec.ofChange oversOrderSpec)) oversOrderCard

/-- THE TIED CARD OF 'scorebooklaw04.OversRates'. -/
def oversRatesCard : Claim7 := { stood := { row := oversRatesRow, standIns := [], harness := (true, "7cd94553c12a27fb6f12044ae7c1029f727f85f943a5d00d6f8c7c6766be0cd2"), looks := true }, kinds := [], alts := [], laidByText := true, laidKinds := [.data, .data, .data, .data, .sentinel, .sentinel, .pinned], laidTests := true, laidLooks := .later }
def OversRatesCardSaid : Prop := Claim7.holds Tryd.pinned (.plain (OpenSpec.ofChange oversRatesSpec)) oversRatesCard

/-- THE TIED CARD OF 'scorebooklaw04.OversNeeds'. -/
def oversNeedsCard : Claim7 := { stood := { row := oversNeedsRow, standIns := [], harness := (true, "7cd94553c12a27fb6f12044ae7c1029f727f85f943a5d00d6f8c7c6766be0cd2"), looks := true }, kinds := [], alts := [], laidByText := true, laidKinds := [.data, .data, .data, .data, .sentinel, .sentinel, .pinned], laidTests := true, laidLooks := .later }
def OversNeedsCardSaid : Prop := Claim7.holds Tryd.pinned (.plain (OpenSpec.ofChange oversNeedsSpec)) oversNeedsCard

/-- THE SECOND FORM's CARD OF 'scorebooklaw04.OversTexts'. -/
def oversTextsUptoCard : Claim7 := { stood := { row := oversTextsUptoRow, standIns := [], harness := (true, "7cd94553c12a27fb6f12044ae7c1029f727f85f943a5d00d6f8c7c6766be0cd2"), looks := true }, kinds := [], alts := [], laidByText := true, laidKinds := [.data, .data, .data, .data, .sentinel, .sentinel, .pinned], laidTests := true, laidLooks := .later }
def OversTextsUptoCardSaid : Prop := Claim7.holds Tryd.pinned (.plain (OpenSpec.upto oversTextsSpec)) oversTextsUptoCard

/-- THE SECOND FORM's CARD OF 'scorebooklaw04.OversCompares'. -/
def oversComparesUptoCard : Claim7 := { stood := { row := oversComparesUptoRow, standIns := [], harness := (true, "7cd94553c12a27fb6f12044ae7c1029f727f85f943a5d00d6f8c7c6766be0cd2"), looks := true }, kinds := [], alts := [], laidByText := true, laidKinds := [.data, .data, .data, .data, .sentinel, .sentinel, .pinned], laidTests := true, laidLooks := .later }
def OversComparesUptoCardSaid : Prop := Claim7.holds Tryd.pinned (.plain (OpenSpec.upto oversComparesSpec)) oversComparesUptoCard

/-- THE SECOND FORM's CARD OF 'scorebooklaw04.OversBalls'. -/
def oversBallsUptoCard : Claim7 := { stood := { row := oversBallsUptoRow, standIns := [], harness := (true, "7cd94553c12a27fb6f12044ae7c1029f727f85f943a5d00d6f8c7c6766be0cd2"), looks := true }, kinds := [], alts := [], laidByText := true, laidKinds := [.data, .data, .data, .data, .sentinel, .sentinel, .pinned], laidTests := true, laidLooks := .later }
def OversBallsUptoCardSaid : Prop := Claim7.holds Tryd.pinned (.plain (OpenSpec.upto oversBallsSpec)) oversBallsUptoCard

/-- THE SECOND FORM's CARD OF 'scorebooklaw04.OversBack'. -/
def oversBackUptoCard : Claim7 := { stood := { row := oversBackUptoRow, standIns := [], harness := (true, "7cd94553c12a27fb6f12044ae7c1029f727f85f943a5d00d6f8c7c6766be0cd2"), looks := true }, kinds := [], alts := [], laidByText := true, laidKinds := [.data, .data, .data, .data, .sentinel, .sentinel, .pinned], laidTests := true, laidLooks := .later }
def OversBackUptoCardSaid : Prop := Claim7.holds Tryd.pinned (.plain (OpenSpec.upto oversBackSpec)) oversBackUptoCard

/-- THE SECOND FORM's CARD OF 'scorebooklaw04.OversOrder'. -/
def oversOrderUptoCard : Claim7 := { stood := { row := oversOrderUptoRow, standIns := [], harness := (true, "7cd94553c12a27fb6f12044ae7c1029f727f85f943a5d00d6f8c7c6766be0cd2"), looks := true }, kinds := [], alts := [], laidByText := true, laidKinds := [.data, .data, .data, .data, .sentinel, .sentinel, .pinned], laidTests := true, laidLooks := .later }
def OversOrderUptoCardSaid : Prop := Claim7.holds Tryd.pinned (.plain (OpenSpec.upto oversOrderSpec)) oversOrderUptoCard

/-- THE SECOND FORM's CARD OF 'scorebooklaw04.OversRates'. -/
def oversRatesUptoCard : Claim7 := { stood := { row := oversRatesUptoRow, standIns := [], harness := (true, "7cd94553c12a27fb6f12044ae7c1029f727f85f943a5d00d6f8c7c6766be0cd2"), looks := true }, kinds := [], alts := [], laidByText := true, laidKinds := [.data, .data, .data, .data, .sentinel, .sentinel, .pinned], laidTests := true, laidLooks := .later }
def OversRatesUptoCardSaid : Prop := Claim7.holds Tryd.pinned (.plain (OpenSpec.upto oversRatesSpec)) oversRatesUptoCard

/-- THE SECOND FORM's CARD OF 'scorebooklaw04.OversNeeds'. -/
def oversNeedsUptoCard : Claim7 := { stood := { row := oversNeedsUptoRow, standIns := [], harness := (true, "7cd94553c12a27fb6f12044ae7c1029f727f85f943a5d00d6f8c7c6766be0cd2"), looks := true }, kinds := [], alts := [], laidByText := true, laidKinds := [.data, .data, .data, .data, .sentinel, .sentinel, .pinned], laidTests := true, laidLooks := .later }
def OversNeedsUptoCardSaid : Prop := Claim7.holds Tryd.pinned (.plain (OpenSpec.upto oversNeedsSpec)) oversNeedsUptoCard
end Rows
end Go.Proofs.YtcnjjkmfneeajaaDoor
