/-
  Opening an array of four whole numbers, and a string.
-/
import Derived.Test.YtcnjjkmfneeajaaDoorRows
import Derived.WalkKit
import Derived.ProofKit
import Derived.OpenShut
import Derived.Laws.IdiomArrays
import Derived.Lib.SmallJoins
namespace Go.Proofs.YtcnjjkmfneeajaaDoor
open Go.RowKit Go.ChangeShapes Go.WideShapes Go.ChangeAt Go.Deep
set_option maxRecDepth 100000

theorem open_ints4 {H : Type} {tok : TypeId × Value → H} {w : World} {base : Nat} {spare : Nat → Bool} {held : Bool} {v : Value} {d : DataW H} {p : List MemPlace} {r : Reach} {b0 : Nat} (hv : Value.okWide Tryd.prog w r b0 31 v) (h : DataW.Trod tok Tryd.prog w base spare held 31 v d p) :
    ∃ a0 a1 a2 a3, v = .agg #[.int .i64 a0, .int .i64 a1, .int .i64 a2, .int .i64 a3] := by
  have hu : Tryd.prog.underlying 31 = some (.array 4 3) := Tryd.underlying31
  have hC : Tryd.prog.cellsOf 31 = 4 := by kernel_rfl
  simp only [Value.okWide, hu] at hv
  obtain ⟨cs, rfl, h2, _⟩ := hv
  rw [hC] at h2
  obtain ⟨c0, c1, c2, c3, rfl⟩ := Joins.array4 h2
  obtain ⟨fuel, hf⟩ := h
  have hf : DataW.trod tok Tryd.prog w base spare held fuel 31 [c0, c1, c2, c3] = some (d, p) := hf
  obtain ⟨y0, y1, y2, y3, n, _, h0, h1, h2, h3⟩ := trod_array4 hu (by kernel_rfl) hf
  obtain ⟨x0, e0, _⟩ := DataW.trod_int Tryd.underlying3 h0
  obtain ⟨x1, e1, _⟩ := DataW.trod_int Tryd.underlying3 h1
  obtain ⟨x2, e2, _⟩ := DataW.trod_int Tryd.underlying3 h2
  obtain ⟨x3, e3, _⟩ := DataW.trod_int Tryd.underlying3 h3
  injection e0 with e0
  injection e1 with e1
  injection e2 with e2
  injection e3 with e3
  subst e0 e1 e2 e3
  exact ⟨_, _, _, _, rfl⟩
end Go.Proofs.YtcnjjkmfneeajaaDoor
