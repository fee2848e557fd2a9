/-
  Chapter 50: slices.Sort and slices.Compact at []int64: the shelf's contracts, laid at this program; in words of a slice of the call's own.
-/
import Derived.Test.YtnbhplhhemkniaaSpec50
import Derived.Test.YtnbhplhhemkniaaRows
import Derived.WalkKit
import Derived.Shelf.SlicesG.CompactI
import Derived.Shelf.SortG.Plain
import Derived.Shelf.SlGeneric
import Derived.Sort.OwnSortedInts
import Derived.Lib.OwnBridge
namespace Go.Proofs
open Go.Shelf Go.RowKit

set_option maxRecDepth 100000
set_option maxHeartbeats 4000000
def Try.laysSort_ren : Go.Shelf.Ren := ⟨fun | 53 => 26 | 64 => 29 | 63 => 28 | 78 => 39 | 79 => 40 | 70 => 30 | 71 => 31 | 72 => 32 | 73 => 33 | 74 => 34 | 75 => 35 | 59 => 36 | 76 => 37 | 77 => 38 | 88 => 41 | 89 => 42 | 90 => 43 | 91 => 44 | 92 => 45 | 68 => 46 | 96 => 47 | n => n, fun | 22 => 28 | 23 => 2 | 3 => 3 | 51 => 54 | 0 => 0 | 67 => 65 | 69 => 67 | 4 => 4 | 61 => 57 | 60 => 56 | 44 => 62 | 5 => 5 | 9 => 9 | 75 => 68 | 79 => 72 | 83 => 75 | 84 => 76 | n => n, fun n => n⟩
theorem Try.laysSort : SlLaysN.n53 Try.prog Try.laysSort_ren where
  mixed := by kernel_rfl
  f53 := ⟨ "slices.Sort[[]int64,int64]", by kernel_rfl, Try.func26.trans (congrArg some (by kernel_rfl))⟩
  f59 := ⟨ "cmp.Less[int64]", by kernel_rfl, Try.func36.trans (congrArg some (by kernel_rfl))⟩
  f63 := ⟨ "slices.pdqsortOrdered[int64]", by kernel_rfl, Try.func28.trans (congrArg some (by kernel_rfl))⟩
  f64 := Try.func29.trans (congrArg some (by kernel_rfl))
  f68 := ⟨ "cmp.isNaN[int64]", by kernel_rfl, Try.func46.trans (congrArg some (by kernel_rfl))⟩
  f70 := ⟨ "slices.insertionSortOrdered[int64]", by kernel_rfl, Try.func30.trans (congrArg some (by kernel_rfl))⟩
  f71 := ⟨ "slices.heapSortOrdered[int64]", by kernel_rfl, Try.func31.trans (congrArg some (by kernel_rfl))⟩
  f72 := ⟨ "slices.breakPatternsOrdered[int64]", by kernel_rfl, Try.func32.trans (congrArg some (by kernel_rfl))⟩
  f73 := ⟨ "slices.choosePivotOrdered[int64]", by kernel_rfl, Try.func33.trans (congrArg some (by kernel_rfl))⟩
  f74 := ⟨ "slices.reverseRangeOrdered[int64]", by kernel_rfl, Try.func34.trans (congrArg some (by kernel_rfl))⟩
  f75 := ⟨ "slices.partialInsertionSortOrdered[int64]", by kernel_rfl, Try.func35.trans (congrArg some (by kernel_rfl))⟩
  f76 := ⟨ "slices.partitionEqualOrdered[int64]", by kernel_rfl, Try.func37.trans (congrArg some (by kernel_rfl))⟩
  f77 := ⟨ "slices.partitionOrdered[int64]", by kernel_rfl, Try.func38.trans (congrArg some (by kernel_rfl))⟩
  f78 := Try.func39.trans (congrArg some (by kernel_rfl))
  f79 := Try.func40.trans (congrArg some (by kernel_rfl))
  f88 := ⟨ "slices.siftDownOrdered[int64]", by kernel_rfl, Try.func41.trans (congrArg some (by kernel_rfl))⟩
  f89 := Try.func42.trans (congrArg some (by kernel_rfl))
  f90 := Try.func43.trans (congrArg some (by kernel_rfl))
  f91 := ⟨ "slices.medianAdjacentOrdered[int64]", by kernel_rfl, Try.func44.trans (congrArg some (by kernel_rfl))⟩
  f92 := ⟨ "slices.medianOrdered[int64]", by kernel_rfl, Try.func45.trans (congrArg some (by kernel_rfl))⟩
  f96 := ⟨ "slices.order2Ordered[int64]", by kernel_rfl, Try.func47.trans (congrArg some (by kernel_rfl))⟩
  t0 := Try.underlying0
  a0 := Try.isAgg0
  z0 := Try.sizeOf0
  v0 := Try.zeroValue0
  t3 := Try.underlying3
  a3 := Try.isAgg3
  z3 := Try.sizeOf3
  v3 := Try.zeroValue3
  t4 := Try.underlying4
  a4 := Try.isAgg4
  z4 := Try.sizeOf4
  v4 := Try.zeroValue4
  t5 := Try.underlying5
  a5 := Try.isAgg5
  z5 := Try.sizeOf5
  v5 := Try.zeroValue5
  t9 := Try.underlying9
  a9 := Try.isAgg9
  z9 := Try.sizeOf9
  v9 := Try.zeroValue9
  t22 := Try.underlying28
  a22 := Try.isAgg28
  z22 := Try.sizeOf28
  v22 := Try.zeroValue28
  t23 := Try.underlying2
  a23 := Try.isAgg2
  z23 := Try.sizeOf2
  v23 := Try.zeroValue2
  t44 := Try.underlying62
  a44 := Try.isAgg62
  z44 := Try.sizeOf62
  v44 := Try.zeroValue62
  t51 := Try.underlying54
  a51 := Try.isAgg54
  z51 := Try.sizeOf54
  v51 := Try.zeroValue54
  t60 := Try.underlying56
  a60 := Try.isAgg56
  z60 := Try.sizeOf56
  v60 := Try.zeroValue56
  t61 := Try.underlying57
  a61 := Try.isAgg57
  z61 := Try.sizeOf57
  v61 := Try.zeroValue57
  t67 := Try.underlying65
  a67 := Try.isAgg65
  z67 := Try.sizeOf65
  v67 := Try.zeroValue65
  t69 := Try.underlying67
  a69 := Try.isAgg67
  z69 := Try.sizeOf67
  v69 := Try.zeroValue67
  t75 := Try.underlying68
  a75 := Try.isAgg68
  z75 := Try.sizeOf68
  v75 := Try.zeroValue68
  t79 := Try.underlying72
  a79 := Try.isAgg72
  z79 := Try.sizeOf72
  v79 := Try.zeroValue72
  t83 := Try.underlying75
  a83 := Try.isAgg75
  z83 := Try.sizeOf75
  v83 := Try.zeroValue75
  t84 := Try.underlying76
  a84 := Try.isAgg76
  z84 := Try.sizeOf76
  v84 := Try.zeroValue76
def Try.laysCompact_ren : Go.Shelf.Ren := ⟨fun | 43 => 27 | n => n, fun | 22 => 28 | 23 => 2 | 3 => 3 | 4 => 4 | 0 => 0 | n => n, fun n => n⟩
theorem Try.laysCompact : SlLaysN.n43 Try.prog Try.laysCompact_ren where
  mixed := by kernel_rfl
  f43 := ⟨ "slices.Compact[[]int64,int64]", by kernel_rfl, Try.func27.trans (congrArg some (by kernel_rfl))⟩
  t0 := Try.underlying0
  a0 := Try.isAgg0
  z0 := Try.sizeOf0
  v0 := Try.zeroValue0
  t3 := Try.underlying3
  a3 := Try.isAgg3
  z3 := Try.sizeOf3
  v3 := Try.zeroValue3
  t4 := Try.underlying4
  a4 := Try.isAgg4
  z4 := Try.sizeOf4
  v4 := Try.zeroValue4
  t22 := Try.underlying28
  a22 := Try.isAgg28
  z22 := Try.sizeOf28
  v22 := Try.zeroValue28
  t23 := Try.underlying2
  a23 := Try.isAgg2
  z23 := Try.sizeOf2
  v23 := Try.zeroValue2
  i23 := by kernel_rfl

namespace Ytnbhplhhemkniaa
theorem flat_inE (l : List Int) : l.flatMap inE = l.map (Value.int .i64) := by
  induction l with
  | nil => rfl
  | cons x r ih => rw [List.flatMap_cons, ih]; rfl
def sortL (zs : List Int) : List Int := zs.mergeSort fun x y => decide (x ≤ y)
theorem sortL_len (zs : List Int) : (sortL zs).length = zs.length := List.length_mergeSort zs
theorem sort_o (w : World) (base g cap : Nat) (zs : List Int) (h : OwnL inE 1 2 base w (.slice (some ⟨g, 0, none⟩) zs.length cap) zs) (hl : zs.length ≤ 400) :
    Calls Try.prog 26 #[.slice (some ⟨g, 0, none⟩) zs.length cap] w fun e w' => e = .returned (.tuple #[]) ∧ OwnL inE 1 2 base w' (.slice (some ⟨g, 0, none⟩) zs.length cap) (sortL zs) ∧ w.grownBy w' (some g) := by
  unfold OwnL at h
  rw [flat_inE] at h
  obtain ⟨g', cap', e1, hb, hlt, hn, hm, _, hH⟩ := Lib.holds_of_ownsRow h (by simp)
  injection e1 with e1 _ e3
  injection e1 with e1
  injection e1 with e1
  subst e1 e3
  have h2 := h.2
  rcases h2 with ⟨h0, _⟩ | ⟨g', cap', cur, e1, _, hg, hn', hm', hs, ht⟩
  · cases h0
  injection e1 with e1 _ e3
  injection e1 with e1
  injection e1 with e1
  subst e1 e3
  refine (AnyG.slices_Sort_int Try.laysSort g 0 cap zs w hH hlt (by omega)).mono ?_
  rintro e w' ⟨rfl, n, os, rfl⟩
  refine ⟨rfl, ?_, grownBy_sortedI _⟩
  unfold OwnL
  rw [flat_inE, sortL_len]
  exact ownsRow_sortedI (ss := zs) (ts := sortL zs) (sortL_len zs) hb hg hn' hm' hs
theorem compact_o (w : World) (base g cap : Nat) (zs : List Int) (h : OwnL inE 1 2 base w (.slice (some ⟨g, 0, none⟩) zs.length cap) zs) (hl : zs.length ≤ 400) :
    Calls Try.prog 27 #[.slice (some ⟨g, 0, none⟩) zs.length cap] w fun e w' => e = .returned (.slice (some ⟨g, 0, none⟩) (Lib.compact zs).length cap) ∧
      OwnL inE 1 2 base w' (.slice (some ⟨g, 0, none⟩) zs.length cap) (Lib.compact zs ++ List.replicate (zs.length - (Lib.compact zs).length) 0) ∧ w.grownBy w' (some g) := by
  unfold OwnL at h
  rw [flat_inE] at h
  obtain ⟨g', cap', e1, hb, hlt, hn, hm, _, hH⟩ := Lib.holds_of_ownsRow h (by simp)
  injection e1 with e1 _ e3
  injection e1 with e1
  injection e1 with e1
  subst e1 e3
  refine (AnyG.slices_Compact_int Try.laysCompact g 0 cap zs w hH (by omega) hn).mono ?_
  rintro e w' ⟨rfl, q, rfl⟩
  have hlen : (Lib.compact zs ++ List.replicate (zs.length - (Lib.compact zs).length) 0).length = zs.length := by
    have := Lib.compact_length_le zs
    rw [List.length_append, List.length_replicate]; omega
  refine ⟨rfl, ?_, ?_⟩
  · have := Lib.ownsRow_putRow (q := q) (k := zs.length) (ys := Lib.compact zs ++ List.replicate (zs.length - (Lib.compact zs).length) 0) h hlen (Nat.le_refl _)
    rw [List.take_of_length_le (by omega)] at this
    unfold OwnL
    rw [flat_inE, hlen]
    exact this
  · have := grownBy_sortedI (w := w) (g := g) (n := q) (os := #[]) (Lib.compact zs ++ List.replicate (zs.length - (Lib.compact zs).length) 0).toArray
    rwa [Sort.grow_empty] at this
end Ytnbhplhhemkniaa
end Go.Proofs
