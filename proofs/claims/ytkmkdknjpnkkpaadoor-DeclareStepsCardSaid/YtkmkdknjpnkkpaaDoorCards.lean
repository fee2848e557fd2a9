/-
  DERIVED. GIVEN WITH THE SEED: THE CARDS: each row of YtkmkdknjpnkkpaaDoorRows.lean that lists a variable, with what it lists TIED to the program's text (the seventh form; the later family's looks); each row that meets fmt, with fmt's text TOLD by the authors' own Lean function (tested against real Go, not proved from fmt's source: count such statements apart). THE CARD IS WHAT COUNTS. Prove the row's statement (the work); the ties are given (YtkmkdknjpnkkpaaDoorTie.lean); close each card by the builder's one call (the guide's Derived/Test/ToyasCard.lean, 'card_holds'). Laid BY PROGRAM, IN A SANDBOX (cutbox-door.mjs). By AI agents, Wed Nov 11 2026. No macro, syntax, notation, axiom, sorry.
-/
import Derived.Test.YtkmkdknjpnkkpaaDoorRows
import GoSem.ClaimSeven
namespace Go.Proofs.YtkmkdknjpnkkpaaDoor
namespace Rows

/-- THE TIED CARD OF 'scorebooklaw47.DeclareSteps'. -/
def declareStepsCard : Claim7 := { stood := { row := declareStepsRow, standIns := [], harness := (true, "61dccc3e388899995ed5c417b6433fe7b5eb477f11a3e07e5db8a141dfce692e"), looks := true }, kinds := [], alts := [], laidByText := true, laidKinds := [.data, .data, .data, .data, .sentinel, .sentinel, .pinned], laidTests := true, laidLooks := .later }
def DeclareStepsCardSaid : Prop := Claim7.holds Tryd.pinned (.plain (OpenSpec.ofChange declareStepsSpec)) declareStepsCard

/-- THE SECOND FORM's CARD OF 'scorebooklaw47.DeclareSteps'. -/
def declareStepsUptoCard : Claim7 := { stood := { row := declareStepsUptoRow, standIns := [], harness := (true, "61dccc3e388899995ed5c417b6433fe7b5eb477f11a3e07e5db8a141dfce692e"), looks := true }, kinds := [], alts := [], laidByText := true, laidKinds := [.data, .data, .data, .data, .sentinel, .sentinel, .pinned], laidTests := true, laidLooks := .later }
def DeclareStepsUptoCardSaid : Prop := Claim7.holds Tryd.pinned (.plain (OpenSpec.upto declareStepsSpec)) declareStepsUptoCard
end Rows
end Go.Proofs.YtkmkdknjpnkkpaaDoor
