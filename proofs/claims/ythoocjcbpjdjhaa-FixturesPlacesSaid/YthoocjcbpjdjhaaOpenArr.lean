/-
  Opening an array of three whole numbers.
-/
import Derived.Test.YthoocjcbpjdjhaaOpen49
import Derived.Laws.IdiomArrays
namespace Go.Proofs.Ythoocjcbpjdjhaa
open Go.RowKit Go.ChangeShapes Go.WideShapes Go.ChangeAt Go.Deep

theorem open_ints3 {H : Type} {tok : TypeId × Value → H} {w : World} {base : Nat} {spare : Nat → Bool} {held : Bool} {v : Value} {d : DataW H} {p : List MemPlace} {r : Reach} {b0 : Nat} (hv : Value.okWide Try.prog w r b0 32 v) (h : DataW.Trod tok Try.prog w base spare held 32 v d p) :
    ∃ a0 a1 a2, v = .agg #[.int .i64 a0, .int .i64 a1, .int .i64 a2] := by
  have hu : Try.prog.underlying 32 = some (.array 3 3) := Try.underlying32
  have hC : Try.prog.cellsOf 32 = 3 := by kernel_rfl
  simp only [Value.okWide, hu] at hv
  obtain ⟨cs, rfl, h2, _⟩ := hv
  rw [hC] at h2
  obtain ⟨c0, c1, c2, rfl⟩ := Joins.array3 h2
  obtain ⟨fuel, hf⟩ := h
  have hf : DataW.trod tok Try.prog w base spare held fuel 32 [c0, c1, c2] = some (d, p) := hf
  obtain ⟨y0, y1, y2, n, _, h0, h1, h2⟩ := trod_array3 hu (by kernel_rfl) hf
  obtain ⟨x0, e0, _⟩ := DataW.trod_int Try.underlying3 h0
  obtain ⟨x1, e1, _⟩ := DataW.trod_int Try.underlying3 h1
  obtain ⟨x2, e2, _⟩ := DataW.trod_int Try.underlying3 h2
  injection e0 with e0
  injection e1 with e1
  injection e2 with e2
  subst e0 e1 e2
  exact ⟨_, _, _, rfl⟩
end Go.Proofs.Ythoocjcbpjdjhaa
