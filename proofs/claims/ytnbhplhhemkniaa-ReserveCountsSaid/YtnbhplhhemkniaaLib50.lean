/-
  Chapter 50: slices.Sort and slices.Compact at []int64: the shelf's contracts, laid at this program; in words of a slice of the call's own.
-/
import Derived.Test.YtnbhplhhemkniaaSpec50
import Derived.Test.YtnbhplhhemkniaaRows
import Derived.WalkKit
import Derived.Shelf.SlicesG.CompactI
import Derived.Shelf.SortG.Plain
import Derived.Shelf.SlGeneric
import Derived.Ground.SlgnProg
import Derived.Sort.OwnSortedInts
import Derived.Lib.OwnBridge
namespace Go.Proofs
open Go.Shelf Go.RowKit

set_option maxRecDepth 100000
set_option maxHeartbeats 4000000
shelf_lay_g SlLaysN.n53 Slgn 53 at Try 26 as Try.laysSort
shelf_lay_g SlLaysN.n43 Slgn 43 at Try 27 as Try.laysCompact
namespace Ytnbhplhhemkniaa
theorem flat_inE (l : List Int) : l.flatMap inE = l.map (Value.int .i64) := by
  induction l with
  | nil => rfl
  | cons x r ih => rw [List.flatMap_cons, ih]; rfl
def sortL (zs : List Int) : List Int := zs.mergeSort fun x y => decide (x ≤ y)
theorem sortL_len (zs : List Int) : (sortL zs).length = zs.length := List.length_mergeSort zs
theorem sort_o (w : World) (base g cap : Nat) (zs : List Int) (h : OwnL inE 1 2 base w (.slice (some ⟨g, 0, none⟩) zs.length cap) zs) (hl : zs.length ≤ 400) :
    Calls Try.prog 26 #[.slice (some ⟨g, 0, none⟩) zs.length cap] w fun e w' => e = .returned (.tuple #[]) ∧ OwnL inE 1 2 base w' (.slice (some ⟨g, 0, none⟩) zs.length cap) (sortL zs) ∧ w.grownBy w' (some g) := by
  unfold OwnL at h
  rw [flat_inE] at h
  obtain ⟨g', cap', e1, hb, hlt, hn, hm, _, hH⟩ := Lib.holds_of_ownsRow h (by simp)
  injection e1 with e1 _ e3
  injection e1 with e1
  injection e1 with e1
  subst e1 e3
  have h2 := h.2
  rcases h2 with ⟨h0, _⟩ | ⟨g', cap', cur, e1, _, hg, hn', hm', hs, ht⟩
  · cases h0
  injection e1 with e1 _ e3
  injection e1 with e1
  injection e1 with e1
  subst e1 e3
  refine (AnyG.slices_Sort_int Try.laysSort g 0 cap zs w hH hlt (by omega)).mono ?_
  rintro e w' ⟨rfl, n, os, rfl⟩
  refine ⟨rfl, ?_, grownBy_sortedI _⟩
  unfold OwnL
  rw [flat_inE, sortL_len]
  exact ownsRow_sortedI (ss := zs) (ts := sortL zs) (sortL_len zs) hb hg hn' hm' hs
theorem compact_o (w : World) (base g cap : Nat) (zs : List Int) (h : OwnL inE 1 2 base w (.slice (some ⟨g, 0, none⟩) zs.length cap) zs) (hl : zs.length ≤ 400) :
    Calls Try.prog 27 #[.slice (some ⟨g, 0, none⟩) zs.length cap] w fun e w' => e = .returned (.slice (some ⟨g, 0, none⟩) (Lib.compact zs).length cap) ∧
      OwnL inE 1 2 base w' (.slice (some ⟨g, 0, none⟩) zs.length cap) (Lib.compact zs ++ List.replicate (zs.length - (Lib.compact zs).length) 0) ∧ w.grownBy w' (some g) := by
  unfold OwnL at h
  rw [flat_inE] at h
  obtain ⟨g', cap', e1, hb, hlt, hn, hm, _, hH⟩ := Lib.holds_of_ownsRow h (by simp)
  injection e1 with e1 _ e3
  injection e1 with e1
  injection e1 with e1
  subst e1 e3
  refine (AnyG.slices_Compact_int Try.laysCompact g 0 cap zs w hH (by omega) hn).mono ?_
  rintro e w' ⟨rfl, q, rfl⟩
  have hlen : (Lib.compact zs ++ List.replicate (zs.length - (Lib.compact zs).length) 0).length = zs.length := by
    have := Lib.compact_length_le zs
    rw [List.length_append, List.length_replicate]; omega
  refine ⟨rfl, ?_, ?_⟩
  · have := Lib.ownsRow_putRow (q := q) (k := zs.length) (ys := Lib.compact zs ++ List.replicate (zs.length - (Lib.compact zs).length) 0) h hlen (Nat.le_refl _)
    rw [List.take_of_length_le (by omega)] at this
    unfold OwnL
    rw [flat_inE, hlen]
    exact this
  · have := grownBy_sortedI (w := w) (g := g) (n := q) (os := #[]) (Lib.compact zs ++ List.replicate (zs.length - (Lib.compact zs).length) 0).toArray
    rwa [Sort.grow_empty] at this
end Ytnbhplhhemkniaa
end Go.Proofs
