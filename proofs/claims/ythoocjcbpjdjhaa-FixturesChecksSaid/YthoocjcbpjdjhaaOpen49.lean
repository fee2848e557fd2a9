/-
  Chapter 49: opening fixtures, seasons.
-/
import Derived.Test.YthoocjcbpjdjhaaRows
import Derived.Test.YthoocjcbpjdjhaaOpen
import Derived.Test.YthoocjcbpjdjhaaSpec49
namespace Go.Proofs.Ythoocjcbpjdjhaa
open Go.RowKit Go.ChangeShapes Go.WideShapes Go.ChangeAt Go.Deep

instance : Inhabited Fx := ⟨⟨0, 0, 0⟩⟩
section
variable {H : Type} {tok : TypeId × Value → H} {w : World} {base : Nat} {spare : Nat → Bool} {held : Bool}
theorem fx_el (n : Nat) (cs : List Value) (y : DataW H × List MemPlace) (h : DataW.trod tok Try.prog w base spare held n 37 cs = some y) : ∃ z : Fx, cs = fxE z := by
  obtain ⟨xs, m, rfl, _, hlen, hxl, hf⟩ := DataW.trod_struct Try.underlying37 h
  have hC : Try.prog.cellsOf 37 = 3 := by kernel_rfl
  rw [hC] at hlen
  match cs, hlen with
  | [a, b, c], _ =>
    match xs, hxl with
    | [p, q, r], _ =>
      have f0 := hf 0 _ rfl
      have f1 := hf 1 _ rfl
      have f2 := hf 2 _ rfl
      simp only [List.getElem?_cons_zero, List.getElem?_cons_succ] at f0 f1 f2
      obtain ⟨x0, e0, _⟩ := DataW.trod_int Try.underlying3 f0
      obtain ⟨x1, e1, _⟩ := DataW.trod_int Try.underlying3 f1
      obtain ⟨x2, e2, _⟩ := DataW.trod_int Try.underlying3 f2
      injection e0 with e0
      injection e1 with e1
      injection e2 with e2
      subst e0 e1 e2
      exact ⟨⟨x0, x1, x2⟩, rfl⟩
theorem int_el (n : Nat) (cs : List Value) (y : DataW H × List MemPlace) (h : DataW.trod tok Try.prog w base spare held n 3 cs = some y) : ∃ z : Int, cs = inE z := by
  obtain ⟨x0, e0, _⟩ := DataW.trod_int Try.underlying3 h
  exact ⟨x0, e0⟩
theorem open_fixtures {v : Value} {d : DataW H} {p : List MemPlace} {r : Reach} {b0 : Nat} (hv : Value.okWide Try.prog w r b0 23 v) (h : DataW.Trod tok Try.prog w base spare held 23 v d p) :
    ∃ A c l, v = .slice A l.length c ∧ l.length ≤ c ∧ c ≤ maxLen ∧ Rd fxE 3 w w.heap.size A l := by
  obtain ⟨a0, len, cap, rfl⟩ := okWide_slice Try.underlying23 hv
  obtain ⟨fuel, hf⟩ := h
  exact open_list (enc := fxE) Try.underlying23 (by kernel_rfl) (by decide) fxE_len fx_el hf
theorem open_season {v : Value} {d : DataW H} {p : List MemPlace} {r : Reach} {b0 : Nat} (hv : Value.okWide Try.prog w r b0 31 v) (h : DataW.Trod tok Try.prog w base spare held 31 v d p) :
    ∃ x y G gc gr, v = .agg #[.int .i64 x, .int .i64 y, .slice G gr.length gc] ∧ gr.length ≤ gc ∧ gc ≤ maxLen ∧ Rd inE 1 w w.heap.size G gr := by
  obtain ⟨v0, v1, v2, y0, y1, y2, n, rfl, _, _, h0, h1, h2⟩ := Joins.open_agg3 Try.underlying31 (by kernel_rfl) (by kernel_rfl) hv h
  obtain ⟨x0, e0, _⟩ := DataW.trod_int Try.underlying2 h0
  obtain ⟨x1, e1, _⟩ := DataW.trod_int Try.underlying2 h1
  injection e0 with e0
  injection e1 with e1
  subst e0 e1
  obtain ⟨A, c, l, rfl, g1, g2, g3⟩ := open_list (enc := inE) Try.underlying29 (by kernel_rfl) (by decide) inE_len int_el h2
  exact ⟨_, _, A, c, l, rfl, g1, g2, g3⟩
end
end Go.Proofs.Ythoocjcbpjdjhaa
