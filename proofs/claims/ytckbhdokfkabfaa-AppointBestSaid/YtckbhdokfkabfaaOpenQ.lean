/-
  Opening a slice whose elements have a property (a range); bytes.
-/
import Derived.Test.YtckbhdokfkabfaaOpen
import Derived.Test.YtckbhdokfkabfaaRng
set_option linter.unusedSimpArgs false
set_option linter.unusedVariables false
namespace Go.Proofs.Ytckbhdokfkabfaa
open Go.RowKit Go.ChangeShapes Go.WideShapes Go.ChangeAt Go.Deep

section
variable {H : Type} {tok : TypeId × Value → H} {P : Program} {w : World} {base : Nat} {spare : Nat → Bool} {held : Bool}
theorem open_listQ {α : Type} [Inhabited α] {enc : α → List Value} {Q : α → Prop} (hd : Q default) {size : Nat} {t e : TypeId} {fuel : Nat} {v : Value} {x : DataW H × List MemPlace} (ht : P.underlying t = some (.slice e)) (hC : P.cellsOf e = size) (hpos : 0 < size) (hlen : ∀ z, (enc z).length = size)
    (hel : ∀ n cs y, DataW.trod tok P w base spare held n e cs = some y → ∃ z : α, cs = enc z ∧ Q z) (h : DataW.trod tok P w base spare held fuel t [v] = some x) :
    ∃ A c l, v = .slice A l.length c ∧ l.length ≤ c ∧ c ≤ maxLen ∧ Rd enc size w w.heap.size A l ∧ ∀ z ∈ l, Q z := by
  haveI : Inhabited {z : α // Q z} := ⟨⟨default, hd⟩⟩
  obtain ⟨A, c, l, rfl, h1, h2, h3⟩ := open_list (α := {z : α // Q z}) (enc := fun z => enc z.1) ht hC hpos (fun z => hlen z.1) (fun n cs y hy => by obtain ⟨z, rfl, hz⟩ := hel n cs y hy; exact ⟨⟨z, hz⟩, rfl⟩) h
  refine ⟨A, c, l.map (·.1), by simp, by simpa using h1, h2, ?_, ?_⟩
  · intro k z hz
    rw [List.getElem?_map] at hz
    cases hk : l[k]? with
    | none => rw [hk] at hz; simp at hz
    | some y =>
      rw [hk] at hz
      simp only [Option.map_some, Option.some.injEq] at hz
      subst hz
      exact h3 k y hk
  · intro z hz
    obtain ⟨y, _, rfl⟩ := List.mem_map.1 hz
    exact y.2
end
end Go.Proofs.Ytckbhdokfkabfaa
