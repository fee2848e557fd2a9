/-
  Chapter 54: opening a transfer.
-/
import Derived.Test.YtleegellkeedhaaOpen54
namespace Go.Proofs.Ytleegellkeedhaa
open Go.RowKit Go.ChangeShapes Go.WideShapes Go.ChangeAt Go.Deep
set_option maxRecDepth 100000
section
variable {H : Type} {tok : TypeId × Value → H} {w : World} {base : Nat} {spare : Nat → Bool} {held : Bool}
theorem open_transfer {v : Value} {d : DataW H} {p : List MemPlace} {r : Reach} {b0 : Nat} (hv : Value.okWide Try.prog w r b0 38 v) (h : DataW.Trod tok Try.prog w base spare held 38 v d p) :
    ∃ t : Tr, v = .agg #[.string t.p, .string t.t, .int .i64 t.d] ∧ (t.p.size ≤ 9223372036854775807 ∧ t.t.size ≤ 9223372036854775807) ∧ (-9223372036854775808 ≤ t.d ∧ t.d ≤ 9223372036854775807) := by
  obtain ⟨v0, v1, v2, y0, y1, y2, n, rfl, _, _, h0, h1, h2⟩ := Joins.open_agg3 Try.underlying38 (by kernel_rfl) (by kernel_rfl) hv h
  obtain ⟨x0, e0, _, s0⟩ := DataW.trod_string Try.underlying9 h0
  obtain ⟨x1, e1, _, s1⟩ := DataW.trod_string Try.underlying9 h1
  obtain ⟨x2, e2, _, w2⟩ := DataW.trod_int Try.underlying2 h2
  injection e0 with e0
  injection e1 with e1
  injection e2 with e2
  subst e0 e1 e2
  exact ⟨⟨x0, x1, x2⟩, rfl, ⟨by unfold maxLen at s0; omega, by unfold maxLen at s1; omega⟩, i64_of_wf w2⟩
end
end Go.Proofs.Ytleegellkeedhaa
