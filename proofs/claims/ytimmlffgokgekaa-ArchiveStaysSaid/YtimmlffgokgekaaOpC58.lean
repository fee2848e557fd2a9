/-
  Chapter 58: opening commits.
-/
import Derived.Test.YtimmlffgokgekaaOpA
import Derived.Test.YtimmlffgokgekaaVrs58
set_option linter.unusedSimpArgs false
set_option linter.unusedVariables false
namespace Go.Proofs.Ytimmlffgokgekaa
open Go.RowKit Go.ChangeShapes Go.WideShapes Go.ChangeAt Go.Deep
set_option maxRecDepth 100000
set_option maxHeartbeats 1000000
section
variable {H : Type} {tok : TypeId × Value → H} {w : World} {base : Nat} {spare : Nat → Bool} {held : Bool}
instance : Inhabited Vr := ⟨⟨0, none, 0, []⟩⟩
def CmQ (w : World) (z : Vr) : Prop := z.l.length ≤ z.c ∧ z.c ≤ maxLen ∧ Rd entE 21 w w.heap.size z.a z.l ∧ ∀ x ∈ z.l, x.sc.size ≤ 9223372036854775807
theorem cm_el (n : Nat) (cs : List Value) (y : DataW H × List MemPlace) (h : DataW.trod tok Try.prog w base spare held n 62 cs = some y) : ∃ z : Vr, cs = verE z ∧ CmQ w z := by
  obtain ⟨xs, m, rfl, _, hlen, hxl, hf⟩ := DataW.trod_struct Try.underlying62 h
  have hC : Try.prog.cellsOf 62 = 2 := by kernel_rfl
  rw [hC] at hlen
  match cs, hlen with
  | [a, b], _ =>
    match xs, hxl with
    | [p, q], _ =>
      have f0 := hf 0 _ rfl
      have f1 := hf 1 _ rfl
      simp only [List.getElem?_cons_zero, List.getElem?_cons_succ] at f0 f1
      obtain ⟨x0, e0, _, _⟩ := DataW.trod_int Try.underlying3 f0
      injection e0 with e0
      subst e0
      obtain ⟨A, c, l, rfl, h1, h2, h3, h4⟩ := open_listQ (enc := entE) (Q := szA) (show szA ⟨0, zeroE, ByteArray.empty⟩ by unfold szA; decide) Try.underlying22 (by kernel_rfl) (by decide) entE_len ent_el (show DataW.trod tok Try.prog w base spare held _ 22 [b] = some _ from f1)
      exact ⟨⟨x0, A, c, l⟩, rfl, h1, h2, h3, h4⟩
theorem open_commits {v : Value} {d : DataW H} {p : List MemPlace} {r : Reach} {b0 : Nat} (hv : Value.okWide Try.prog w r b0 55 v) (h : DataW.Trod tok Try.prog w base spare held 55 v d p) :
    ∃ A c l, v = .slice A l.length c ∧ l.length ≤ c ∧ c ≤ maxLen ∧ Rd verE 2 w w.heap.size A l ∧ ∀ z ∈ l, CmQ w z := by
  obtain ⟨a0, len, cap, rfl⟩ := okWide_slice Try.underlying55 hv
  obtain ⟨fuel, hf⟩ := h
  exact open_listQ (enc := verE) (Q := CmQ w) (show CmQ w ⟨0, none, 0, []⟩ from ⟨Nat.le_refl _, by decide, Rd.nil_, fun x hx => by cases hx⟩) Try.underlying55 (by kernel_rfl) (by decide) verE_len cm_el hf
end
end Go.Proofs.Ytimmlffgokgekaa
