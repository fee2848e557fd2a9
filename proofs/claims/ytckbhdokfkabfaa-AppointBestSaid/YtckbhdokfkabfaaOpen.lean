/-
  Opening a law's arguments: a slice of elements reads as a list; a struct's reading is its cells.
-/
import Derived.Test.YtckbhdokfkabfaaBase
import Derived.ProofKit
import Derived.OpenShut
import Derived.ShutString
import Derived.ChangeOld
import Derived.Deep.Slices
import Derived.Deep.Fields
import Derived.ChangeSame
import Derived.Lib.SmallJoins
set_option linter.unusedSimpArgs false
set_option linter.unusedVariables false
namespace Go.Proofs.Ytckbhdokfkabfaa
open Go.RowKit Go.ChangeShapes Go.WideShapes Go.ChangeAt Go.Deep

section
variable {H : Type} {tok : TypeId × Value → H} {P : Program} {w : World} {base : Nat} {spare : Nat → Bool} {held : Bool}

/-- A slice whose elements' cells are 'enc' of something. -/
theorem open_list {α : Type} [Inhabited α] {enc : α → List Value} {size : Nat} {t e : TypeId} {fuel : Nat} {v : Value} {x : DataW H × List MemPlace} (ht : P.underlying t = some (.slice e)) (hC : P.cellsOf e = size) (hpos : 0 < size) (hlen : ∀ z, (enc z).length = size)
    (hel : ∀ n cs y, DataW.trod tok P w base spare held n e cs = some y → ∃ z : α, cs = enc z) (h : DataW.trod tok P w base spare held fuel t [v] = some x) :
    ∃ A c l, v = .slice A l.length c ∧ l.length ≤ c ∧ c ≤ maxLen ∧ Rd enc size w w.heap.size A l := by
  rcases open_slice ht h with ⟨hcs, _⟩ | ⟨a, len, cap, m, n, D, Pl, hcs, hb, hl, hm, hmm, hx, hi⟩
  · injection hcs with hcs _
    exact ⟨none, 0, [], hcs, Nat.le_refl _, by decide, Rd.nil_⟩
  · injection hcs with hcs _
    have hlm : len ≤ m := by rw [hmm]; split <;> omega
    have key : ∀ i, i < len → ∃ z : α, ∀ j u, (enc z)[j]? = some u → w.cell? ((a.add (i * size)).add j) = some u := by
      intro i hlt
      obtain ⟨cs', hc, htr⟩ := hi i (by omega)
      obtain ⟨z, rfl⟩ := hel _ _ _ htr
      rw [hC] at hc
      obtain ⟨_, hcl, hat⟩ := World.cells?_some hc
      refine ⟨z, fun j u hu => ?_⟩
      have hj : j < size := by have := (List.getElem?_eq_some_iff.1 hu).1; omega
      rw [hat j hj]
      exact hu
    obtain ⟨f, hf⟩ := choose_lt key
    have hll : ((List.range len).map f).length = len := by simp
    refine ⟨some a, cap, (List.range len).map f, by rw [hll]; exact hcs, by rw [hll]; exact hl, hm, ?_⟩
    intro k z hz
    have hk : k < len := by have := (List.getElem?_eq_some_iff.1 hz).1; simpa using this
    have hz2 : f k = z := by simpa [hk] using hz
    have hcell := hf k hk
    rw [hz2] at hcell
    obtain ⟨b, off, spot⟩ := a
    have h0 : (enc z)[0]? = some ((enc z)[0]'(by rw [hlen]; exact hpos)) := List.getElem?_eq_getElem _
    have hc0 := hcell 0 _ h0
    have hsp : spot = none := by
      have h1 : (enc (f 0))[0]? = some ((enc (f 0))[0]'(by rw [hlen]; exact hpos)) := List.getElem?_eq_getElem _
      simpa [Addr.add] using World.cell?_spot (hf 0 (by omega) 0 _ h1)
    subst hsp
    refine ⟨b, off, rfl, World.block_lt_of_cell? w ⟨b, off + k * size + 0, none⟩ (by simpa [Addr.add_lit] using hc0), fun j u hu => ?_⟩
    have := hcell j u hu
    simpa [Addr.add_lit] using this

end
end Go.Proofs.Ytckbhdokfkabfaa
