/-
  Chapter 54: opening lists of transfers, queries.
-/
import Derived.Test.YtomjgjfhgjblbaaRows
import Derived.Test.YtomjgjfhgjblbaaOpenQ
import Derived.Test.YtomjgjfhgjblbaaSpec54
import Derived.OpenShut
import Derived.ChangeMaps5
namespace Go.Proofs.Ytomjgjfhgjblbaa
open Go.RowKit Go.ChangeShapes Go.WideShapes Go.ChangeAt Go.Deep

def szT (z : Tr) : Prop := (z.p.size ≤ 9223372036854775807 ∧ z.t.size ≤ 9223372036854775807) ∧ (-9223372036854775808 ≤ z.d ∧ z.d ≤ 9223372036854775807)
set_option maxRecDepth 100000
section
variable {H : Type} {tok : TypeId × Value → H} {w : World} {base : Nat} {spare : Nat → Bool} {held : Bool}
theorem tr_el (n : Nat) (cs : List Value) (y : DataW H × List MemPlace) (h : DataW.trod tok Try.prog w base spare held n 27 cs = some y) : ∃ z : Tr, cs = trE z ∧ szT z := by
  obtain ⟨xs, m, rfl, _, hlen, hxl, hf⟩ := DataW.trod_struct Try.underlying27 h
  have hC : Try.prog.cellsOf 27 = 3 := by kernel_rfl
  rw [hC] at hlen
  match cs, hlen with
  | [a, b, c], _ =>
    match xs, hxl with
    | [p, q, r], _ =>
      have f0 := hf 0 _ rfl
      have f1 := hf 1 _ rfl
      have f2 := hf 2 _ rfl
      simp only [List.getElem?_cons_zero, List.getElem?_cons_succ] at f0 f1 f2
      obtain ⟨x0, e0, _, s0⟩ := DataW.trod_string Try.underlying9 f0
      obtain ⟨x1, e1, _, s1⟩ := DataW.trod_string Try.underlying9 f1
      obtain ⟨x2, e2, _, w2⟩ := DataW.trod_int Try.underlying2 f2
      injection e0 with e0
      injection e1 with e1
      injection e2 with e2
      subst e0 e1 e2
      exact ⟨⟨x0, x1, x2⟩, rfl, ⟨⟨by unfold maxLen at s0; omega, by unfold maxLen at s1; omega⟩, i64_of_wf w2⟩⟩
theorem open_transfers {v : Value} {d : DataW H} {p : List MemPlace} {r : Reach} {b0 : Nat} (hv : Value.okWide Try.prog w r b0 22 v) (h : DataW.Trod tok Try.prog w base spare held 22 v d p) :
    ∃ A c l, v = .slice A l.length c ∧ l.length ≤ c ∧ c ≤ maxLen ∧ Rd trE 3 w w.heap.size A l ∧ ∀ z ∈ l, szT z := by
  obtain ⟨a0, len, cap, rfl⟩ := okWide_slice Try.underlying22 hv
  obtain ⟨fuel, hf⟩ := h
  exact open_listQ (enc := trE) (Q := szT) (show szT ⟨⟨#[]⟩, ⟨#[]⟩, 0⟩ by unfold szT; simp [ByteArray.size]) Try.underlying22 (by kernel_rfl) (by decide) trE_len tr_el hf
theorem open_query {v : Value} {d : DataW H} {p : List MemPlace} {r : Reach} {b0 : Nat} (hv : Value.okWide Try.prog w r b0 24 v) (h : DataW.Trod tok Try.prog w base spare held 24 v d p) :
    ∃ qp qt qd, v = .agg #[.string qp, .string qt, .int .i64 qd] ∧ (qp.size ≤ 9223372036854775807 ∧ qt.size ≤ 9223372036854775807) ∧ (-9223372036854775808 ≤ qd ∧ qd ≤ 9223372036854775807) := by
  obtain ⟨v0, v1, v2, y0, y1, y2, n, rfl, _, _, h0, h1, h2⟩ := Joins.open_agg3 Try.underlying24 (by kernel_rfl) (by kernel_rfl) hv h
  obtain ⟨x0, e0, _, s0⟩ := DataW.trod_string Try.underlying9 h0
  obtain ⟨x1, e1, _, s1⟩ := DataW.trod_string Try.underlying9 h1
  obtain ⟨x2, e2, _, w2⟩ := DataW.trod_int Try.underlying2 h2
  injection e0 with e0
  injection e1 with e1
  injection e2 with e2
  subst e0 e1 e2
  exact ⟨x0, x1, x2, rfl, ⟨by unfold maxLen at s0; omega, by unfold maxLen at s1; omega⟩, i64_of_wf w2⟩
end
end Go.Proofs.Ytomjgjfhgjblbaa
