/-
  Chapter 54: opening registers, queries.
-/
import Derived.Test.YtpninpohligomaaGreatDoorRows
import Derived.Test.YtpninpohligomaaGreatDoorOpenQ
import Derived.Test.YtpninpohligomaaGreatDoorSpec54
set_option linter.unusedSimpArgs false
set_option linter.unusedVariables false
namespace Go.Proofs.YtpninpohligomaaGreatDoor
open Go.RowKit Go.ChangeShapes Go.WideShapes Go.ChangeAt Go.Deep

def szT (z : Tr) : Prop := (z.p.size ≤ 9223372036854775807 ∧ z.t.size ≤ 9223372036854775807) ∧ (-9223372036854775808 ≤ z.d ∧ z.d ≤ 9223372036854775807)
def szW (z : Wn) : Prop := (-9223372036854775808 ≤ z.f ∧ z.f ≤ 9223372036854775807) ∧ (-9223372036854775808 ≤ z.t ∧ z.t ≤ 9223372036854775807)
set_option maxRecDepth 100000
section
variable {H : Type} {tok : TypeId × Value → H} {w : World} {base : Nat} {spare : Nat → Bool} {held : Bool}
theorem tr_el (n : Nat) (cs : List Value) (y : DataW H × List MemPlace) (h : DataW.trod tok Tryz.prog w base spare held n 51 cs = some y) : ∃ z : Tr, cs = trE z ∧ szT z := by
  obtain ⟨xs, m, rfl, _, hlen, hxl, hf⟩ := DataW.trod_struct Tryz.underlying51 h
  have hC : Tryz.prog.cellsOf 51 = 3 := by kernel_rfl
  rw [hC] at hlen
  match cs, hlen with
  | [a, b, c], _ =>
    match xs, hxl with
    | [p, q, r], _ =>
      have f0 := hf 0 _ rfl
      have f1 := hf 1 _ rfl
      have f2 := hf 2 _ rfl
      simp only [List.getElem?_cons_zero, List.getElem?_cons_succ] at f0 f1 f2
      obtain ⟨x0, e0, _, s0⟩ := DataW.trod_string Tryz.underlying9 f0
      obtain ⟨x1, e1, _, s1⟩ := DataW.trod_string Tryz.underlying9 f1
      obtain ⟨x2, e2, _, w2⟩ := DataW.trod_int Tryz.underlying2 f2
      injection e0 with e0
      injection e1 with e1
      injection e2 with e2
      subst e0 e1 e2
      exact ⟨⟨x0, x1, x2⟩, rfl, ⟨⟨by unfold maxLen at s0; omega, by unfold maxLen at s1; omega⟩, i64_of_wf w2⟩⟩
theorem wn_el (n : Nat) (cs : List Value) (y : DataW H × List MemPlace) (h : DataW.trod tok Tryz.prog w base spare held n 48 cs = some y) : ∃ z : Wn, cs = wnE z ∧ szW z := by
  obtain ⟨xs, m, rfl, _, hlen, hxl, hf⟩ := DataW.trod_struct Tryz.underlying48 h
  have hC : Tryz.prog.cellsOf 48 = 2 := by kernel_rfl
  rw [hC] at hlen
  match cs, hlen with
  | [a, b], _ =>
    match xs, hxl with
    | [p, q], _ =>
      have f0 := hf 0 _ rfl
      have f1 := hf 1 _ rfl
      simp only [List.getElem?_cons_zero, List.getElem?_cons_succ] at f0 f1
      obtain ⟨x0, e0, _, w0⟩ := DataW.trod_int Tryz.underlying2 f0
      obtain ⟨x1, e1, _, w1⟩ := DataW.trod_int Tryz.underlying2 f1
      injection e0 with e0
      injection e1 with e1
      subst e0 e1
      exact ⟨⟨x0, x1⟩, rfl, i64_of_wf w0, i64_of_wf w1⟩
theorem open_register {v : Value} {d : DataW H} {p : List MemPlace} {r : Reach} {b0 : Nat} (hv : Value.okWide Tryz.prog w r b0 38 v) (h : DataW.Trod tok Tryz.prog w base spare held 38 v d p) :
    ∃ WA wc ws A c l, v = .agg #[.slice WA ws.length wc, .slice A l.length c] ∧ (ws.length ≤ wc ∧ wc ≤ maxLen) ∧ (l.length ≤ c ∧ c ≤ maxLen) ∧ Rd wnE 2 w w.heap.size WA ws ∧ Rd trE 3 w w.heap.size A l ∧ ∀ z ∈ l, szT z := by
  obtain ⟨v0, v1, y0, y1, n, rfl, _, _, h0, h1⟩ := Joins.open_agg2 Tryz.underlying38 (by kernel_rfl) (by kernel_rfl) hv h
  obtain ⟨A, c, l, rfl, g1, g2, g3, _⟩ := open_listQ (enc := wnE) (Q := szW) (show szW ⟨0, 0⟩ by unfold szW; simp) Tryz.underlying35 (by kernel_rfl) (by decide) wnE_len wn_el h0
  obtain ⟨A2, c2, l2, rfl, k1, k2, k3, k4⟩ := open_listQ (enc := trE) (Q := szT) (show szT ⟨⟨#[]⟩, ⟨#[]⟩, 0⟩ by unfold szT; simp [ByteArray.size]) Tryz.underlying36 (by kernel_rfl) (by decide) trE_len tr_el h1
  exact ⟨A, c, l, A2, c2, l2, rfl, ⟨g1, g2⟩, ⟨k1, k2⟩, g3, k3, k4⟩
end
end Go.Proofs.YtpninpohligomaaGreatDoor
