/-
  Chapter 50: opening tasks, windows, lists of days.
-/
import Derived.Test.YtnbhplhhemkniaaRows
import Derived.Test.YtnbhplhhemkniaaOpen
import Derived.Test.YtnbhplhhemkniaaSpec50
namespace Go.Proofs.Ytnbhplhhemkniaa
open Go.RowKit Go.ChangeShapes Go.WideShapes Go.ChangeAt Go.Deep
set_option maxRecDepth 100000
section
variable {H : Type} {tok : TypeId × Value → H} {w : World} {base : Nat} {spare : Nat → Bool} {held : Bool}
theorem jb_el (n : Nat) (cs : List Value) (y : DataW H × List MemPlace) (h : DataW.trod tok Try.prog w base spare held n 43 cs = some y) : ∃ z : Jb, cs = jbE z := by
  obtain ⟨xs, m, rfl, _, hlen, hxl, hf⟩ := DataW.trod_struct Try.underlying43 h
  have hC : Try.prog.cellsOf 43 = 2 := by kernel_rfl
  rw [hC] at hlen
  match cs, hlen with
  | [a, b], _ =>
    match xs, hxl with
    | [p, q], _ =>
      have f0 := hf 0 _ rfl
      have f1 := hf 1 _ rfl
      simp only [List.getElem?_cons_zero, List.getElem?_cons_succ] at f0 f1
      obtain ⟨x0, e0, _⟩ := DataW.trod_int Try.underlying2 f0
      obtain ⟨x1, e1, _⟩ := DataW.trod_int Try.underlying2 f1
      injection e0 with e0
      injection e1 with e1
      subst e0 e1
      exact ⟨⟨x0, x1⟩, rfl⟩
theorem int_el (n : Nat) (cs : List Value) (y : DataW H × List MemPlace) (h : DataW.trod tok Try.prog w base spare held n 3 cs = some y) : ∃ z : Int, cs = inE z := by
  obtain ⟨x0, e0, _⟩ := DataW.trod_int Try.underlying3 h
  exact ⟨x0, e0⟩
theorem i64_el (n : Nat) (cs : List Value) (y : DataW H × List MemPlace) (h : DataW.trod tok Try.prog w base spare held n 2 cs = some y) : ∃ z : Int, cs = inE z := by
  obtain ⟨x0, e0, _⟩ := DataW.trod_int Try.underlying2 h
  exact ⟨x0, e0⟩
theorem open_days {v : Value} {d : DataW H} {p : List MemPlace} {r : Reach} {b0 : Nat} (hv : Value.okWide Try.prog w r b0 28 v) (h : DataW.Trod tok Try.prog w base spare held 28 v d p) :
    ∃ A c l, v = .slice A l.length c ∧ l.length ≤ c ∧ c ≤ maxLen ∧ Rd inE 1 w w.heap.size A l := by
  obtain ⟨a0, len, cap, rfl⟩ := okWide_slice Try.underlying28 hv
  obtain ⟨fuel, hf⟩ := h
  exact open_list (enc := inE) Try.underlying28 (by kernel_rfl) (by decide) inE_len i64_el hf
theorem open_window {v : Value} {d : DataW H} {p : List MemPlace} {r : Reach} {b0 : Nat} (hv : Value.okWide Try.prog w r b0 30 v) (h : DataW.Trod tok Try.prog w base spare held 30 v d p) :
    ∃ x y, v = .agg #[.int .i64 x, .int .i64 y] := by
  obtain ⟨v0, v1, y0, y1, n, rfl, _, _, h0, h1⟩ := Joins.open_agg2 Try.underlying30 (by kernel_rfl) (by kernel_rfl) hv h
  obtain ⟨x0, e0, _⟩ := DataW.trod_int Try.underlying2 h0
  obtain ⟨x1, e1, _⟩ := DataW.trod_int Try.underlying2 h1
  injection e0 with e0
  injection e1 with e1
  subst e0 e1
  exact ⟨_, _, rfl⟩
theorem open_task {v : Value} {d : DataW H} {p : List MemPlace} {r : Reach} {b0 : Nat} (hv : Value.okWide Try.prog w r b0 25 v) (h : DataW.Trod tok Try.prog w base spare held 25 v d p) :
    ∃ A jc js x C cc caps, v = .agg #[.slice A js.length jc, .int .i64 x, .slice C caps.length cc] ∧ Rd jbE 2 w w.heap.size A js ∧ Rd inE 1 w w.heap.size C caps ∧ js.length ≤ jc ∧ jc ≤ maxLen ∧ caps.length ≤ cc ∧ cc ≤ maxLen := by
  obtain ⟨v0, v1, v2, y0, y1, y2, n, rfl, _, _, h0, h1, h2⟩ := Joins.open_agg3 Try.underlying25 (by kernel_rfl) (by kernel_rfl) hv h
  obtain ⟨x1, e1, _⟩ := DataW.trod_int Try.underlying2 h1
  injection e1 with e1
  subst e1
  obtain ⟨A, c, l, rfl, g1, g2, g3⟩ := open_list (enc := jbE) Try.underlying22 (by kernel_rfl) (by decide) jbE_len jb_el h0
  obtain ⟨A2, c2, l2, rfl, k1, k2, k3⟩ := open_list (enc := inE) Try.underlying23 (by kernel_rfl) (by decide) inE_len int_el h2
  exact ⟨A, c, l, _, A2, c2, l2, rfl, g3, k3, g1, g2, k1, k2⟩
end
end Go.Proofs.Ytnbhplhhemkniaa
