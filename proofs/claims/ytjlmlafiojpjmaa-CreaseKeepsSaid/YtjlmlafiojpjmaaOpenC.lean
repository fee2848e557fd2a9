/-
  Chapter 12: opening an act, a list of acts.
-/
import Derived.Test.YtjlmlafiojpjmaaRows
import Derived.Test.YtjlmlafiojpjmaaOpenQ
import Derived.Test.YtjlmlafiojpjmaaCrA
set_option linter.unusedSimpArgs false
set_option linter.unusedVariables false
namespace Go.Proofs.Ytjlmlafiojpjmaa
open Go.RowKit Go.ChangeShapes Go.WideShapes Go.ChangeAt Go.Deep
set_option maxRecDepth 100000
set_option maxHeartbeats 1000000
section
variable {H : Type} {tok : TypeId × Value → H} {w : World} {base : Nat} {spare : Nat → Bool} {held : Bool}
theorem dl_el (n : Nat) (cs : List Value) (y : DataW H × List MemPlace) (h : DataW.trod tok Try.prog w base spare held n 42 cs = some y) : ∃ z : Dl, cs = dlC z := by
  obtain ⟨xs, m, rfl, _, hlen, hxl, hf⟩ := DataW.trod_struct Try.underlying42 h
  have hC : Try.prog.cellsOf 42 = 12 := by kernel_rfl
  rw [hC] at hlen
  match cs, hlen with
  | [a0, a1, a2, a3, a4, a5, a6, a7, a8, a9, a10, a11], _ =>
    match xs, hxl with
    | [p0, p1, p2, p3, p4, p5, p6, p7, p8, p9, p10, p11], _ =>
      have f0 := hf 0 _ rfl
      have f1 := hf 1 _ rfl
      have f2 := hf 2 _ rfl
      have f3 := hf 3 _ rfl
      have f4 := hf 4 _ rfl
      have f5 := hf 5 _ rfl
      have f6 := hf 6 _ rfl
      have f7 := hf 7 _ rfl
      have f8 := hf 8 _ rfl
      have f9 := hf 9 _ rfl
      have f10 := hf 10 _ rfl
      have f11 := hf 11 _ rfl
      simp only [List.getElem?_cons_zero, List.getElem?_cons_succ] at f0 f1 f2 f3 f4 f5 f6 f7 f8 f9 f10 f11
      obtain ⟨x0, e0, _, w0⟩ := DataW.trod_int Try.underlying38 f0
      obtain ⟨x1, e1, _, w1⟩ := DataW.trod_int Try.underlying39 f1
      obtain ⟨x2, e2, _, w2⟩ := DataW.trod_int Try.underlying3 f2
      obtain ⟨x3, e3, _, w3⟩ := DataW.trod_int Try.underlying3 f3
      obtain ⟨x4, e4, _, w4⟩ := DataW.trod_int Try.underlying3 f4
      obtain ⟨x5, e5, _⟩ := DataW.trod_bool Try.underlying4 f5
      obtain ⟨x6, e6, _, w6⟩ := DataW.trod_int Try.underlying40 f6
      obtain ⟨x7, e7, _, w7⟩ := DataW.trod_int Try.underlying3 f7
      obtain ⟨x8, e8, _, w8⟩ := DataW.trod_int Try.underlying3 f8
      obtain ⟨x9, e9, _, w9⟩ := DataW.trod_int Try.underlying3 f9
      obtain ⟨x10, e10, _⟩ := DataW.trod_bool Try.underlying4 f10
      obtain ⟨x11, e11, _, w11⟩ := DataW.trod_int Try.underlying3 f11
      injection e0 with e0
      injection e1 with e1
      injection e2 with e2
      injection e3 with e3
      injection e4 with e4
      injection e5 with e5
      injection e6 with e6
      injection e7 with e7
      injection e8 with e8
      injection e9 with e9
      injection e10 with e10
      injection e11 with e11
      subst e0 e1 e2 e3 e4 e5 e6 e7 e8 e9 e10 e11
      exact ⟨⟨x0, x1, x2, x3, x4, x5, x6, x7, x8, x9, x10, x11⟩, rfl⟩
theorem act_el (n : Nat) (cs : List Value) (y : DataW H × List MemPlace) (h : DataW.trod tok Try.prog w base spare held n 46 cs = some y) : ∃ a : Ac, cs = acC a ∧ (0 ≤ a.kind ∧ a.kind ≤ 255) := by
  have hC : Try.prog.cellsOf 46 = 16 := by kernel_rfl
  obtain ⟨xs, m, hx, _, hlen, hxl, hfl⟩ := DataW.trod_struct Try.underlying46 h
  rw [hC] at hlen
  match cs, hlen, hfl with
  | [a0, a1, a2, a3, a4, a5, a6, a7, a8, a9, a10, a11, a12, a13, a14, a15], _, hfl =>
    match xs, hxl with
    | [p0, p1, p2, p3, p4], _ =>
      have f0 := hfl 0 _ rfl
      have f1 := hfl 1 _ rfl
      have f2 := hfl 2 _ rfl
      have f3 := hfl 3 _ rfl
      have f4 := hfl 4 _ rfl
      simp only [List.getElem?_cons_zero, List.getElem?_cons_succ] at f0 f1 f2 f3 f4
      obtain ⟨x0, e0, _, w0⟩ := DataW.trod_int Try.underlying5 f0
      obtain ⟨x1, e1, _, w1⟩ := DataW.trod_int Try.underlying3 f1
      obtain ⟨x2, e2, _, w2⟩ := DataW.trod_int Try.underlying3 f2
      obtain ⟨x3, e3, _⟩ := DataW.trod_bool Try.underlying4 f3
      obtain ⟨z, e4⟩ := dl_el _ _ _ f4
      injection e0 with e0
      injection e1 with e1
      injection e2 with e2
      injection e3 with e3
      subst e0 e1 e2 e3
      refine ⟨⟨x0, x1, x2, x3, z⟩, ?_, u8_of_wf w0⟩
      have e4 : [a4, a5, a6, a7, a8, a9, a10, a11, a12, a13, a14, a15] = dlC z := e4
      unfold acC
      rw [← e4]
instance : Inhabited Ac := ⟨⟨0, 0, 0, false, ⟨0, 0, 0, 0, 0, false, 0, 0, 0, 0, false, 0⟩⟩⟩
theorem act_default : 0 ≤ (default : Ac).kind ∧ (default : Ac).kind ≤ 255 := by decide
theorem open_acts {v : Value} {d : DataW H} {p : List MemPlace} {r : Reach} {b0 : Nat} (hv : Value.okWide Try.prog w r b0 52 v) (h : DataW.Trod tok Try.prog w base spare held 52 v d p) :
    ∃ A c l, v = .slice A l.length c ∧ l.length ≤ c ∧ c ≤ maxLen ∧ Rd acC 16 w w.heap.size A l ∧ ∀ a ∈ l, 0 ≤ a.kind ∧ a.kind ≤ 255 := by
  obtain ⟨a0, len, cap, rfl⟩ := okWide_slice Try.underlying52 hv
  obtain ⟨fuel, hf⟩ := h
  exact open_listQ (enc := acC) (Q := fun a => 0 ≤ a.kind ∧ a.kind ≤ 255) act_default Try.underlying52 (by kernel_rfl) (by decide) (fun _ => rfl) act_el hf
end
end Go.Proofs.Ytjlmlafiojpjmaa
