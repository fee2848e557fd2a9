/-
  DERIVED. GIVEN WITH THE SEED: THE CARDS: each row of YtkmkdknjpnkkpaaGreatDoorRows.lean that lists a variable, with what it lists TIED to the program's text (the seventh form; the later family's looks); each row that meets fmt, with fmt's text TOLD by the authors' own Lean function (tested against real Go, not proved from fmt's source: count such statements apart). THE CARD IS WHAT COUNTS. Prove the row's statement (the work); the ties are given (YtkmkdknjpnkkpaaGreatDoorTie.lean); close each card by the builder's one call (the guide's Derived/Test/ToyasCard.lean, 'card_holds'). Laid BY PROGRAM, IN A SANDBOX (cutbox-door.mjs). By AI agents, Wed Nov 11 2026. No macro, syntax, notation, axiom, sorry.
-/
import Derived.Test.YtkmkdknjpnkkpaaGreatDoorRows
import GoSem.ClaimSeven
namespace Go.Proofs.YtkmkdknjpnkkpaaGreatDoor
namespace Rows

/-- THE TIED CARD OF 'scorebooklaw47.DeclareValues'. -/
def declareValuesCard : Claim7 := { stood := { row := declareValuesRow, standIns := [], harness := (true, "c3514aeef718e50340fabe945181a0dd15229a2dc7d25ec1a448d764e3caa7ba"), looks := true }, kinds := [], alts := [], laidByText := true, laidKinds := [.data, .data, .data, .data, .sentinel, .sentinel, .pinned], laidTests := true, laidLooks := .later }
def DeclareValuesCardSaid : Prop := Claim7.holds Tryz.pinned (.plain (OpenSpec.ofChange declareValuesSpec)) declareValuesCard

/-- THE TIED CARD OF 'scorebooklaw47.DeclareRules'. -/
def declareRulesCard : Claim7 := { stood := { row := declareRulesRow, standIns := [], harness := (true, "c3514aeef718e50340fabe945181a0dd15229a2dc7d25ec1a448d764e3caa7ba"), looks := true }, kinds := [], alts := [], laidByText := true, laidKinds := [.data, .data, .data, .data, .sentinel, .sentinel, .pinned], laidTests := true, laidLooks := .later }
def DeclareRulesCardSaid : Prop := Claim7.holds Tryz.pinned (.plain (OpenSpec.ofChange declareRulesSpec)) declareRulesCard

/-- THE TIED CARD OF 'scorebooklaw47.DeclareTables'. -/
def declareTablesCard : Claim7 := { stood := { row := declareTablesRow, standIns := [], harness := (true, "c3514aeef718e50340fabe945181a0dd15229a2dc7d25ec1a448d764e3caa7ba"), looks := true }, kinds := [], alts := [], laidByText := true, laidKinds := [.data, .data, .data, .data, .sentinel, .sentinel, .pinned], laidTests := true, laidLooks := .later }
def DeclareTablesCardSaid : Prop := Claim7.holds Tryz.pinned (.plain (OpenSpec.ofChange declareTablesSpec)) declareTablesCard

/-- THE TIED CARD OF 'scorebooklaw47.DeclareAccepts'. -/
def declareAcceptsCard : Claim7 := { stood := { row := declareAcceptsRow, standIns := [], harness := (true, "c3514aeef718e50340fabe945181a0dd15229a2dc7d25ec1a448d764e3caa7ba"), looks := true }, kinds := [], alts := [], laidByText := true, laidKinds := [.data, .data, .data, .data, .sentinel, .sentinel, .pinned], laidTests := true, laidLooks := .later }
def DeclareAcceptsCardSaid : Prop := Claim7.holds Tryz.pinned (.plain (OpenSpec.ofChange declareAcceptsSpec)) declareAcceptsCard

/-- THE SECOND FORM's CARD OF 'scorebooklaw47.DeclareValues'. -/
def declareValuesUptoCard : Claim7 := { stood := { row := declareValuesUptoRow, standIns := [], harness := (true, "c3514aeef718e50340fabe945181a0dd15229a2dc7d25ec1a448d764e3caa7ba"), looks := true }, kinds := [], alts := [], laidByText := true, laidKinds := [.data, .data, .data, .data, .sentinel, .sentinel, .pinned], laidTests := true, laidLooks := .later }
def DeclareValuesUptoCardSaid : Prop := Claim7.holds Tryz.pinned (.plain (OpenSpec.upto declareValuesSpec)) declareValuesUptoCard

/-- THE SECOND FORM's CARD OF 'scorebooklaw47.DeclareRules'. -/
def declareRulesUptoCard : Claim7 := { stood := { row := declareRulesUptoRow, standIns := [], harness := (true, "c3514aeef718e50340fabe945181a0dd15229a2dc7d25ec1a448d764e3caa7ba"), looks := true }, kinds := [], alts := [], laidByText := true, laidKinds := [.data, .data, .data, .data, .sentinel, .sentinel, .pinned], laidTests := true, laidLooks := .later }
def DeclareRulesUptoCardSaid : Prop := Claim7.holds Tryz.pinned (.plain (OpenSpec.upto declareRulesSpec)) declareRulesUptoCard

/-- THE SECOND FORM's CARD OF 'scorebooklaw47.DeclareTables'. -/
def declareTablesUptoCard : Claim7 := { stood := { row := declareTablesUptoRow, standIns := [], harness := (true, "c3514aeef718e50340fabe945181a0dd15229a2dc7d25ec1a448d764e3caa7ba"), looks := true }, kinds := [], alts := [], laidByText := true, laidKinds := [.data, .data, .data, .data, .sentinel, .sentinel, .pinned], laidTests := true, laidLooks := .later }
def DeclareTablesUptoCardSaid : Prop := Claim7.holds Tryz.pinned (.plain (OpenSpec.upto declareTablesSpec)) declareTablesUptoCard

/-- THE SECOND FORM's CARD OF 'scorebooklaw47.DeclareAccepts'. -/
def declareAcceptsUptoCard : Claim7 := { stood := { row := declareAcceptsUptoRow, standIns := [], harness := (true, "c3514aeef718e50340fabe945181a0dd15229a2dc7d25ec1a448d764e3caa7ba"), looks := true }, kinds := [], alts := [], laidByText := true, laidKinds := [.data, .data, .data, .data, .sentinel, .sentinel, .pinned], laidTests := true, laidLooks := .later }
def DeclareAcceptsUptoCardSaid : Prop := Claim7.holds Tryz.pinned (.plain (OpenSpec.upto declareAcceptsSpec)) declareAcceptsUptoCard
end Rows
end Go.Proofs.YtkmkdknjpnkkpaaGreatDoor
