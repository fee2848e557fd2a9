/-
  Chapter 56: opening books, days.
-/
import Derived.Test.YtpninpohligomaaGreatDoorRows
import Derived.Test.YtpninpohligomaaGreatDoorOpenQ
import Derived.Test.YtpninpohligomaaGreatDoorSpec56
import Derived.OpenShut
import Derived.ChangeMaps5
set_option linter.unusedSimpArgs false
set_option linter.unusedVariables false
namespace Go.Proofs.YtpninpohligomaaGreatDoor
open Go.RowKit Go.ChangeShapes Go.WideShapes Go.ChangeAt Go.Deep

def szO (z : Of) : Prop := z.p.size ≤ 9223372036854775807
set_option maxRecDepth 100000
section
variable {H : Type} {tok : TypeId × Value → H} {w : World} {base : Nat} {spare : Nat → Bool} {held : Bool}
theorem of_el (n : Nat) (cs : List Value) (y : DataW H × List MemPlace) (h : DataW.trod tok Tryz.prog w base spare held n 32 cs = some y) : ∃ z : Of, cs = ofE z ∧ szO z := by
  obtain ⟨xs, m, rfl, _, hlen, hxl, hf⟩ := DataW.trod_struct Tryz.underlying32 h
  have hC : Tryz.prog.cellsOf 32 = 4 := by kernel_rfl
  rw [hC] at hlen
  match cs, hlen with
  | [a, b, c, d], _ =>
    match xs, hxl with
    | [p, q, r, s], _ =>
      have f0 := hf 0 _ rfl
      have f1 := hf 1 _ rfl
      have f2 := hf 2 _ rfl
      have f3 := hf 3 _ rfl
      simp only [List.getElem?_cons_zero, List.getElem?_cons_succ] at f0 f1 f2 f3
      obtain ⟨x0, e0, _, _⟩ := DataW.trod_int Tryz.underlying2 f0
      obtain ⟨x1, e1, _, s1⟩ := DataW.trod_string Tryz.underlying9 f1
      obtain ⟨x2, e2, _, _⟩ := DataW.trod_int Tryz.underlying2 f2
      obtain ⟨x3, e3, _, _⟩ := DataW.trod_int Tryz.underlying3 f3
      injection e0 with e0
      injection e1 with e1
      injection e2 with e2
      injection e3 with e3
      subst e0 e1 e2 e3
      exact ⟨⟨x0, x1, x2, x3⟩, rfl, by unfold szO; unfold maxLen at s1; show x1.size ≤ _; omega⟩
theorem i64_el (n : Nat) (cs : List Value) (y : DataW H × List MemPlace) (h : DataW.trod tok Tryz.prog w base spare held n 2 cs = some y) : ∃ z : Int, cs = inE z ∧ (-9223372036854775808 ≤ z ∧ z ≤ 9223372036854775807) := by
  obtain ⟨x0, e0, _, hw⟩ := DataW.trod_int Tryz.underlying2 h
  exact ⟨x0, e0, i64_of_wf hw⟩
theorem open_book {v : Value} {d : DataW H} {p : List MemPlace} {r : Reach} {b0 : Nat} (hv : Value.okWide Tryz.prog w r b0 22 v) (h : DataW.Trod tok Tryz.prog w base spare held 22 v d p) :
    ∃ A c l, v = .slice A l.length c ∧ l.length ≤ c ∧ c ≤ maxLen ∧ Rd ofE 4 w w.heap.size A l ∧ ∀ z ∈ l, szO z := by
  obtain ⟨a0, len, cap, rfl⟩ := okWide_slice Tryz.underlying22 hv
  obtain ⟨fuel, hf⟩ := h
  exact open_listQ (enc := ofE) (Q := szO) (show szO ⟨0, ⟨#[]⟩, 0, 0⟩ by unfold szO; simp [ByteArray.size]) Tryz.underlying22 (by kernel_rfl) (by decide) ofE_len of_el hf
theorem open_days {v : Value} {d : DataW H} {p : List MemPlace} {r : Reach} {b0 : Nat} (hv : Value.okWide Tryz.prog w r b0 59 v) (h : DataW.Trod tok Tryz.prog w base spare held 59 v d p) :
    ∃ A c l, v = .slice A l.length c ∧ l.length ≤ c ∧ c ≤ maxLen ∧ Rd inE 1 w w.heap.size A l ∧ ∀ x ∈ l, -9223372036854775808 ≤ x ∧ x ≤ 9223372036854775807 := by
  obtain ⟨a0, len, cap, rfl⟩ := okWide_slice Tryz.underlying59 hv
  obtain ⟨fuel, hf⟩ := h
  exact open_listQ (enc := inE) (Q := fun x => -9223372036854775808 ≤ x ∧ x ≤ 9223372036854775807) (by simp [default]) Tryz.underlying59 (by kernel_rfl) (by decide) inE_len i64_el hf
theorem open_str {v : Value} {d : DataW H} {p : List MemPlace} {r : Reach} {b0 : Nat} (hv : Value.okWide Tryz.prog w r b0 9 v) (h : DataW.Trod tok Tryz.prog w base spare held 9 v d p) :
    ∃ s, v = .string s ∧ s.size ≤ 9223372036854775807 := by
  obtain ⟨s, rfl, _, _, hs⟩ := Go.ChangeMaps.open_string Tryz.underlying9 hv h
  exact ⟨s, rfl, by unfold maxLen at hs; omega⟩
end
end Go.Proofs.YtpninpohligomaaGreatDoor
