/-
  Chapter 58: Sort and Compact at a slice of the call's own, nil or not.
-/
import Derived.Test.YtimmlffgokgekaaArcM
import Derived.Shelf.SortG.SortNone
import Derived.Deep.RegionHeld3
set_option linter.unusedSimpArgs false
set_option linter.unusedVariables false
namespace Go.Proofs.Ytimmlffgokgekaa
open Go.RowKit
set_option maxRecDepth 100000
set_option maxHeartbeats 4000000
theorem grown_refl (w : World) (r : Option Nat) : w.grownBy w r := ⟨rfl, rfl, rfl, Nat.le_refl _, fun _ _ _ => rfl⟩
theorem sort_any (w : World) (base : Nat) (A : Option Addr) (cap : Nat) (zs : List Int) (h : OwnL inE 1 2 base w (.slice A zs.length cap) zs) (hl : zs.length ≤ 400) :
    Calls Try.prog 38 #[.slice A zs.length cap] w fun e w' => e = .returned (.tuple #[]) ∧ OwnL inE 1 2 base w' (.slice A zs.length cap) (sortL zs) ∧ w.grownBy w' (Value.slice A zs.length cap).ownBlock := by
  rcases h.2 with ⟨hv, hn⟩ | ⟨g, cap', cur, hv, _⟩
  · have h0 : zs = [] := List.eq_nil_of_length_eq_zero hn
    subst h0
    injection hv with e1 _ e3
    subst e1 e3
    refine (AnyG.slices_Sort_int_none Try.laysSort none 0 w).mono ?_
    rintro e w' ⟨rfl, rfl⟩
    refine ⟨rfl, ?_, grown_refl _ _⟩
    rw [show sortL [] = [] from by unfold sortL; simp]
    exact World.ownsRow_nil _ _ _ _
  · injection hv with e1 _ e3
    subst e1 e3
    exact sort_o w base g cap zs h hl
theorem compact_n (w : World) (A : Option Addr) (cap : Nat) : Calls Try.prog 40 #[.slice A 0 cap] w fun e w' => e = .returned (.slice A 0 cap) ∧ w' = w := by
  go_enter Try.func40, Try.ntmps40
  go_wp2_with (fail)
  go_ret
  exact ⟨rfl, rfl⟩
theorem compact_any (w : World) (base : Nat) (A : Option Addr) (cap : Nat) (zs : List Int) (h : OwnL inE 1 2 base w (.slice A zs.length cap) zs) (hl : zs.length ≤ 400) :
    Calls Try.prog 40 #[.slice A zs.length cap] w fun e w' => e = .returned (.slice A (Lib.compact zs).length cap) ∧ Rd inE 1 w' w'.heap.size A (Lib.compact zs) ∧ w.grownBy w' (Value.slice A zs.length cap).ownBlock := by
  rcases h.2 with ⟨hv, hn⟩ | ⟨g, cap', cur, hv, _⟩
  · have h0 : zs = [] := List.eq_nil_of_length_eq_zero hn
    subst h0
    injection hv with e1 _ e3
    subst e1 e3
    refine (compact_n w none 0).mono ?_
    rintro e w' ⟨rfl, rfl⟩
    exact ⟨rfl, Rd.nil_, grown_refl _ _⟩
  · injection hv with e1 _ e3
    subst e1 e3
    refine (compact_o w base g cap zs h hl).mono ?_
    rintro e w' ⟨rfl, ho, hg⟩
    refine ⟨rfl, ?_, hg⟩
    have hlen : (Lib.compact zs ++ List.replicate (zs.length - (Lib.compact zs).length) 0).length = zs.length := by
      have := Lib.compact_length_le zs
      rw [List.length_append, List.length_replicate]; omega
    rw [← hlen] at ho
    obtain ⟨A, c, e, hr, _⟩ := ho.rd inE_len
    injection e with e1 _ e3
    subst e1
    intro k x hx
    exact hr k x (by rw [List.getElem?_append_left (List.getElem?_eq_some_iff.1 hx).1]; exact hx)
theorem compact_len (zs : List Int) : (Lib.compact zs).length ≤ zs.length := Lib.compact_length_le zs
end Go.Proofs.Ytimmlffgokgekaa
