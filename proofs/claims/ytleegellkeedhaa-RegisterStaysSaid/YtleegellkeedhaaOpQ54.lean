/-
  Chapter 54: opening queries.
-/
import Derived.Test.YtleegellkeedhaaOpen54
namespace Go.Proofs.Ytleegellkeedhaa
open Go.RowKit Go.ChangeShapes Go.WideShapes Go.ChangeAt Go.Deep
set_option maxRecDepth 100000
section
variable {H : Type} {tok : TypeId × Value → H} {w : World} {base : Nat} {spare : Nat → Bool} {held : Bool}
theorem open_query {v : Value} {d : DataW H} {p : List MemPlace} {r : Reach} {b0 : Nat} (hv : Value.okWide Try.prog w r b0 36 v) (h : DataW.Trod tok Try.prog w base spare held 36 v d p) :
    ∃ qp qt qd, v = .agg #[.string qp, .string qt, .int .i64 qd] ∧ (qp.size ≤ 9223372036854775807 ∧ qt.size ≤ 9223372036854775807) ∧ (-9223372036854775808 ≤ qd ∧ qd ≤ 9223372036854775807) := by
  obtain ⟨v0, v1, v2, y0, y1, y2, n, rfl, _, _, h0, h1, h2⟩ := Joins.open_agg3 Try.underlying36 (by kernel_rfl) (by kernel_rfl) hv h
  obtain ⟨x0, e0, _, s0⟩ := DataW.trod_string Try.underlying9 h0
  obtain ⟨x1, e1, _, s1⟩ := DataW.trod_string Try.underlying9 h1
  obtain ⟨x2, e2, _, w2⟩ := DataW.trod_int Try.underlying2 h2
  injection e0 with e0
  injection e1 with e1
  injection e2 with e2
  subst e0 e1 e2
  exact ⟨x0, x1, x2, rfl, ⟨by unfold maxLen at s0; omega, by unfold maxLen at s1; omega⟩, i64_of_wf w2⟩
end
end Go.Proofs.Ytleegellkeedhaa
