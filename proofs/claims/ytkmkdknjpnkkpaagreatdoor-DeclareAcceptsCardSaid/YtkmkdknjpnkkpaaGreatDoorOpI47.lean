/-
  Chapter 47: opening a list of leads, and an array of three numbers.
-/
import Derived.Test.YtkmkdknjpnkkpaaGreatDoorOpen47
import Derived.Laws.IdiomArrays
import Derived.Lib.SmallJoins
set_option linter.unusedSimpArgs false
set_option linter.unusedVariables false
namespace Go.Proofs.YtkmkdknjpnkkpaaGreatDoor
open Go.RowKit Go.ChangeShapes Go.WideShapes Go.ChangeAt Go.Deep
set_option maxRecDepth 100000
section
variable {H : Type} {tok : TypeId × Value → H} {w : World} {base : Nat} {spare : Nat → Bool} {held : Bool}
theorem open_leads {v : Value} {d : DataW H} {p : List MemPlace} {r : Reach} {b0 : Nat} (hv : Value.okWide Tryz.prog w r b0 35 v) (h : DataW.Trod tok Tryz.prog w base spare held 35 v d p) :
    ∃ A c l, v = .slice A l.length c ∧ Rd inE 1 w w.heap.size A l := by
  obtain ⟨a0, len, cap, rfl⟩ := okWide_slice Tryz.underlying35 hv
  obtain ⟨fuel, hf⟩ := h
  obtain ⟨A, c, l, h1, _, _, h2⟩ := open_list (enc := inE) Tryz.underlying35 (by kernel_rfl) (by decide) inE_len int_el hf
  exact ⟨A, c, l, h1, h2⟩
theorem open_x3 {v : Value} {d : DataW H} {p : List MemPlace} {r : Reach} {b0 : Nat} (hv : Value.okWide Tryz.prog w r b0 42 v) (h : DataW.Trod tok Tryz.prog w base spare held 42 v d p) :
    ∃ a0 a1 a2, v = .agg #[.int .i64 a0, .int .i64 a1, .int .i64 a2] ∧ rgI a0 ∧ rgI a1 := by
  have hu : Tryz.prog.underlying 42 = some (.array 3 2) := Tryz.underlying42
  have hC : Tryz.prog.cellsOf 42 = 3 := by kernel_rfl
  simp only [Value.okWide, hu] at hv
  obtain ⟨cs, rfl, h2, _⟩ := hv
  rw [hC] at h2
  obtain ⟨c0, c1, c2, rfl⟩ := Joins.array3 h2
  obtain ⟨fuel, hf⟩ := h
  have hf : DataW.trod tok Tryz.prog w base spare held fuel 42 [c0, c1, c2] = some (d, p) := hf
  obtain ⟨y0, y1, y2, n, _, h0, h1, h2⟩ := trod_array3 hu (by kernel_rfl) hf
  obtain ⟨x0, e0, _, w0⟩ := DataW.trod_int Tryz.underlying2 h0
  obtain ⟨x1, e1, _, w1⟩ := DataW.trod_int Tryz.underlying2 h1
  obtain ⟨x2, e2, _⟩ := DataW.trod_int Tryz.underlying2 h2
  injection e0 with e0
  injection e1 with e1
  injection e2 with e2
  subst e0 e1 e2
  exact ⟨_, _, _, rfl, i64_of_wf w0, i64_of_wf w1⟩
end
end Go.Proofs.YtkmkdknjpnkkpaaGreatDoor
