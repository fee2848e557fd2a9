/-
  Chapter 55: opening tasks.
-/
import Derived.Test.YtckbhdokfkabfaaRows
import Derived.Test.YtckbhdokfkabfaaOpen
import Derived.Test.YtckbhdokfkabfaaOpenQ
import Derived.Test.YtckbhdokfkabfaaFew55
set_option linter.unusedSimpArgs false
set_option linter.unusedVariables false
namespace Go.Proofs.Ytckbhdokfkabfaa
open Go.RowKit Go.ChangeShapes Go.WideShapes Go.ChangeAt Go.Deep
set_option maxRecDepth 100000
set_option maxHeartbeats 1000000
section
variable {H : Type} {tok : TypeId × Value → H} {w : World} {base : Nat} {spare : Nat → Bool} {held : Bool}
instance : Inhabited Dty := ⟨⟨0, 0, ⟨#[]⟩, ⟨#[]⟩⟩⟩
instance : Inhabited Ump := ⟨⟨⟨#[]⟩, ⟨#[]⟩, [], none, 0⟩⟩
instance : Inhabited Apd := ⟨⟨0, ⟨#[]⟩, ⟨#[]⟩⟩⟩
def ApS (z : Apd) : Prop := z.one.size ≤ 9223372036854775807 ∧ z.two.size ≤ 9223372036854775807
theorem i64_el (n : Nat) (cs : List Value) (y : DataW H × List MemPlace) (h : DataW.trod tok Try.prog w base spare held n 2 cs = some y) : ∃ z : Int, cs = iE z := by
  obtain ⟨x0, e0, _⟩ := DataW.trod_int Try.underlying2 h
  exact ⟨x0, e0⟩
theorem int_el (n : Nat) (cs : List Value) (y : DataW H × List MemPlace) (h : DataW.trod tok Try.prog w base spare held n 3 cs = some y) : ∃ z : Int, cs = iE z := by
  obtain ⟨x0, e0, _⟩ := DataW.trod_int Try.underlying3 h
  exact ⟨x0, e0⟩
theorem du_el (n : Nat) (cs : List Value) (y : DataW H × List MemPlace) (h : DataW.trod tok Try.prog w base spare held n 29 cs = some y) : ∃ z : Dty, cs = dtE z ∧ DtS z := by
  obtain ⟨xs, m, rfl, _, hlen, hxl, hf⟩ := DataW.trod_struct Try.underlying29 h
  have hC : Try.prog.cellsOf 29 = 4 := by kernel_rfl
  rw [hC] at hlen
  match cs, hlen with
  | [a, b, c, d], _ =>
    match xs, hxl with
    | [p, q, r, s], _ =>
      have f0 := hf 0 _ rfl
      have f1 := hf 1 _ rfl
      have f2 := hf 2 _ rfl
      have f3 := hf 3 _ rfl
      simp only [List.getElem?_cons_zero, List.getElem?_cons_succ] at f0 f1 f2 f3
      obtain ⟨x0, e0, _⟩ := DataW.trod_int Try.underlying3 f0
      obtain ⟨x1, e1, _⟩ := DataW.trod_int Try.underlying2 f1
      obtain ⟨x2, e2, _, s2⟩ := DataW.trod_string Try.underlying9 f2
      obtain ⟨x3, e3, _, s3⟩ := DataW.trod_string Try.underlying9 f3
      injection e0 with e0
      injection e1 with e1
      injection e2 with e2
      injection e3 with e3
      subst e0 e1 e2 e3
      exact ⟨⟨x0, x1, x2, x3⟩, rfl, by unfold maxLen at s2; show _ ≤ _; omega, by unfold maxLen at s3; show _ ≤ _; omega⟩
theorem um_el (n : Nat) (cs : List Value) (y : DataW H × List MemPlace) (h : DataW.trod tok Try.prog w base spare held n 32 cs = some y) : ∃ z : Ump, cs = umE z ∧ RawU w z := by
  obtain ⟨xs, m, rfl, _, hlen, hxl, hf⟩ := DataW.trod_struct Try.underlying32 h
  have hC : Try.prog.cellsOf 32 = 3 := by kernel_rfl
  rw [hC] at hlen
  match cs, hlen with
  | [a, b, c], _ =>
    match xs, hxl with
    | [p, q, r], _ =>
      have f0 := hf 0 _ rfl
      have f1 := hf 1 _ rfl
      have f2 := hf 2 _ rfl
      simp only [List.getElem?_cons_zero, List.getElem?_cons_succ] at f0 f1 f2
      obtain ⟨x0, e0, _, s0⟩ := DataW.trod_string Try.underlying9 f0
      obtain ⟨x1, e1, _, s1⟩ := DataW.trod_string Try.underlying9 f1
      injection e0 with e0
      injection e1 with e1
      subst e0 e1
      obtain ⟨A, c, l, rfl, h1, h2, h3⟩ := open_list (enc := iE) Try.underlying30 (by kernel_rfl) (by decide) iE_len i64_el (show DataW.trod tok Try.prog w base spare held _ 30 [c] = some _ from f2)
      exact ⟨⟨x0, x1, l, A, c⟩, rfl, by unfold maxLen at s0; show _ ≤ _; omega, by unfold maxLen at s1; show _ ≤ _; omega, h1, by unfold maxLen at h2; show _ ≤ _; omega, h3⟩
theorem ap_el (n : Nat) (cs : List Value) (y : DataW H × List MemPlace) (h : DataW.trod tok Try.prog w base spare held n 43 cs = some y) : ∃ z : Apd, cs = apE z ∧ ApS z := by
  obtain ⟨xs, m, rfl, _, hlen, hxl, hf⟩ := DataW.trod_struct Try.underlying43 h
  have hC : Try.prog.cellsOf 43 = 3 := by kernel_rfl
  rw [hC] at hlen
  match cs, hlen with
  | [a, b, c], _ =>
    match xs, hxl with
    | [p, q, r], _ =>
      have f0 := hf 0 _ rfl
      have f1 := hf 1 _ rfl
      have f2 := hf 2 _ rfl
      simp only [List.getElem?_cons_zero, List.getElem?_cons_succ] at f0 f1 f2
      obtain ⟨x0, e0, _⟩ := DataW.trod_int Try.underlying3 f0
      obtain ⟨x1, e1, _, s1⟩ := DataW.trod_string Try.underlying9 f1
      obtain ⟨x2, e2, _, s2⟩ := DataW.trod_string Try.underlying9 f2
      injection e0 with e0
      injection e1 with e1
      injection e2 with e2
      subst e0 e1 e2
      exact ⟨⟨x0, x1, x2⟩, rfl, by unfold maxLen at s1; show _ ≤ _; omega, by unfold maxLen at s2; show _ ≤ _; omega⟩
theorem open_task {v : Value} {d : DataW H} {p : List MemPlace} {r : Reach} {b0 : Nat} (hv : Value.okWide Try.prog w r b0 25 v) (h : DataW.Trod tok Try.prog w base spare held 25 v d p) :
    ∃ A c M B d U, v = .agg #[.slice A (List.length M) c, .slice B (List.length U) d] ∧ Rd dtE 4 w w.heap.size A M ∧ (∀ x ∈ M, DtS x) ∧ M.length ≤ c ∧ c ≤ 9223372036854775807 ∧ Rd umE 3 w w.heap.size B U ∧ (∀ y ∈ U, RawU w y) ∧ U.length ≤ d ∧ d ≤ 9223372036854775807 := by
  obtain ⟨v0, v1, y0, y1, n, rfl, _, _, h0, h1⟩ := Joins.open_agg2 Try.underlying25 (by kernel_rfl) (by kernel_rfl) hv h
  obtain ⟨A, c, l, rfl, g1, g2, g3, g4⟩ := open_listQ (enc := dtE) (Q := DtS) (show DtS ⟨0, 0, ⟨#[]⟩, ⟨#[]⟩⟩ by unfold DtS; simp [ByteArray.size]) Try.underlying22 (by kernel_rfl) (by decide) dtE_len du_el h0
  obtain ⟨A2, c2, l2, rfl, k1, k2, k3, k4⟩ := open_listQ (enc := umE) (Q := RawU w) (show RawU w ⟨⟨#[]⟩, ⟨#[]⟩, [], none, 0⟩ from ⟨by decide, by decide, Nat.le_refl _, by decide, Rd.nil_⟩) Try.underlying23 (by kernel_rfl) (by decide) umE_len um_el h1
  exact ⟨A, c, l, A2, c2, l2, rfl, g3, g4, g1, by unfold maxLen at g2; omega, k3, k4, k1, by unfold maxLen at k2; omega⟩
theorem open_apds {v : Value} {d : DataW H} {p : List MemPlace} {r : Reach} {b0 : Nat} (hv : Value.okWide Try.prog w r b0 37 v) (h : DataW.Trod tok Try.prog w base spare held 37 v d p) :
    ∃ A c l, v = .slice A (List.length l) c ∧ l.length ≤ c ∧ c ≤ 9223372036854775807 ∧ Rd apE 3 w w.heap.size A l ∧ ∀ z ∈ l, ApS z := by
  obtain ⟨a0, len, cap, rfl⟩ := okWide_slice Try.underlying37 hv
  obtain ⟨fuel, hf⟩ := h
  obtain ⟨A, c, l, h1, h2, h3, h4, h5⟩ := open_listQ (enc := apE) (Q := ApS) (show ApS ⟨0, ⟨#[]⟩, ⟨#[]⟩⟩ by unfold ApS; simp [ByteArray.size]) Try.underlying37 (by kernel_rfl) (by decide) apE_len ap_el hf
  exact ⟨A, c, l, h1, h2, by unfold maxLen at h3; omega, h4, h5⟩
theorem open_nums {v : Value} {d : DataW H} {p : List MemPlace} {r : Reach} {b0 : Nat} (hv : Value.okWide Try.prog w r b0 38 v) (h : DataW.Trod tok Try.prog w base spare held 38 v d p) :
    ∃ A c l, v = .slice A (List.length l) c ∧ l.length ≤ c ∧ c ≤ 9223372036854775807 ∧ Rd iE 1 w w.heap.size A l := by
  obtain ⟨a0, len, cap, rfl⟩ := okWide_slice Try.underlying38 hv
  obtain ⟨fuel, hf⟩ := h
  obtain ⟨A, c, l, h1, h2, h3, h4⟩ := open_list (enc := iE) Try.underlying38 (by kernel_rfl) (by decide) iE_len int_el hf
  exact ⟨A, c, l, h1, h2, by unfold maxLen at h3; omega, h4⟩
end
end Go.Proofs.Ytckbhdokfkabfaa
