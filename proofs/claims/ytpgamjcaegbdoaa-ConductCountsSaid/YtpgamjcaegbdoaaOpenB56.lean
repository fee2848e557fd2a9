/-
  Chapter 56: opening a slice of bytes.
-/
import Derived.Test.YtpgamjcaegbdoaaRows
import Derived.Test.YtpgamjcaegbdoaaOpenQ
import Derived.Test.YtpgamjcaegbdoaaLawCt56
namespace Go.Proofs.Ytpgamjcaegbdoaa
open Go.RowKit Go.ChangeShapes Go.WideShapes Go.ChangeAt Go.Deep
section
variable {H : Type} {tok : TypeId × Value → H} {w : World} {base : Nat} {spare : Nat → Bool} {held : Bool}
theorem u8_el (n : Nat) (cs : List Value) (y : DataW H × List MemPlace) (h : DataW.trod tok Try.prog w base spare held n 5 cs = some y) : ∃ z : Int, cs = u8E z ∧ (0 ≤ z ∧ z ≤ 255) := by
  obtain ⟨x0, e0, _, hw⟩ := DataW.trod_int Try.underlying5 h
  exact ⟨x0, e0, u8_of_wf hw⟩
theorem open_bytes {v : Value} {d : DataW H} {p : List MemPlace} {r : Reach} {b0 : Nat} (hv : Value.okWide Try.prog w r b0 38 v) (h : DataW.Trod tok Try.prog w base spare held 38 v d p) :
    ∃ A c l, v = .slice A l.length c ∧ l.length ≤ c ∧ c ≤ maxLen ∧ Rd u8E 1 w w.heap.size A l ∧ ∀ x ∈ l, 0 ≤ x ∧ x ≤ 255 := by
  obtain ⟨a0, len, cap, rfl⟩ := okWide_slice Try.underlying38 hv
  obtain ⟨fuel, hf⟩ := h
  exact open_listQ (enc := u8E) (Q := fun x => 0 ≤ x ∧ x ≤ 255) (by decide) Try.underlying38 (by kernel_rfl) (by decide) (fun _ => rfl) u8_el hf
end
end Go.Proofs.Ytpgamjcaegbdoaa
