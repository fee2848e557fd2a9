/-
  Chapter 47: opening a list of leads, and an array of three numbers.
-/
import Derived.Test.YtkmkdknjpnkkpaaGreatDoorOpen47
import Derived.Laws.IdiomArrays
import Derived.Lib.SmallJoins
set_option linter.unusedSimpArgs false
set_option linter.unusedVariables false
namespace Go.Proofs.YtkmkdknjpnkkpaaGreatDoor
open Go.RowKit Go.ChangeShapes Go.WideShapes Go.ChangeAt Go.Deep
set_option maxRecDepth 100000
section
variable {H : Type} {tok : TypeId × Value → H} {w : World} {base : Nat} {spare : Nat → Bool} {held : Bool}
theorem open_leads {v : Value} {d : DataW H} {p : List MemPlace} {r : Reach} {b0 : Nat} (hv : Value.okWide Tryz.prog w r b0 35 v) (h : DataW.Trod tok Tryz.prog w base spare held 35 v d p) :
    ∃ A c l, v = .slice A l.length c ∧ Rd inE 1 w w.heap.size A l := by
  obtain ⟨a0, len, cap, rfl⟩ := okWide_slice Tryz.underlying35 hv
  obtain ⟨fuel, hf⟩ := h
  obtain ⟨A, c, l, h1, _, _, h2⟩ := open_list (enc := inE) Tryz.underlying35 (by kernel_rfl) (by decide) inE_len int_el hf
  exact ⟨A, c, l, h1, h2⟩
end
end Go.Proofs.YtkmkdknjpnkkpaaGreatDoor
