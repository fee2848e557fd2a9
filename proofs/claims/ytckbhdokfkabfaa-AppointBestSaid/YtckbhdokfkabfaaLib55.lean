/-
  Chapter 55: slices.Sort at []int64: the shelf's contracts, laid at this program; in words of a slice of the call's own.
-/
import Derived.Test.YtckbhdokfkabfaaSp55
import Derived.Test.YtckbhdokfkabfaaRows
import Derived.WalkKit
import Derived.Shelf.SortG.Plain
import Derived.Shelf.SlGeneric
import Derived.Sort.OwnSortedInts
import Derived.Lib.OwnBridge
set_option linter.unusedSimpArgs false
set_option linter.unusedVariables false
namespace Go.Proofs
open Go.Shelf Go.RowKit

set_option maxRecDepth 100000
set_option maxHeartbeats 4000000
def Try.laysSort_ren : Go.Shelf.Ren := ⟨fun | 53 => 31 | 64 => 56 | 63 => 55 | 78 => 74 | 79 => 75 | 70 => 65 | 71 => 66 | 72 => 67 | 73 => 68 | 74 => 69 | 75 => 70 | 59 => 71 | 76 => 72 | 77 => 73 | 88 => 77 | 89 => 78 | 90 => 79 | 91 => 80 | 92 => 81 | 68 => 82 | 96 => 83 | n => n, fun | 22 => 30 | 23 => 2 | 3 => 3 | 51 => 90 | 0 => 0 | 67 => 114 | 69 => 116 | 4 => 4 | 61 => 106 | 60 => 105 | 44 => 111 | 5 => 5 | 9 => 9 | 75 => 118 | 79 => 122 | 83 => 124 | 84 => 125 | n => n, fun n => n⟩
theorem Try.laysSort : SlLaysN.n53 Try.prog Try.laysSort_ren where
  mixed := by kernel_rfl
  f53 := ⟨ "slices.Sort[[]int64,int64]", by kernel_rfl, Try.func31.trans (congrArg some (by kernel_rfl))⟩
  f59 := ⟨ "cmp.Less[int64]", by kernel_rfl, Try.func71.trans (congrArg some (by kernel_rfl))⟩
  f63 := ⟨ "slices.pdqsortOrdered[int64]", by kernel_rfl, Try.func55.trans (congrArg some (by kernel_rfl))⟩
  f64 := by kernel_rfl
  f68 := ⟨ "cmp.isNaN[int64]", by kernel_rfl, Try.func82.trans (congrArg some (by kernel_rfl))⟩
  f70 := ⟨ "slices.insertionSortOrdered[int64]", by kernel_rfl, Try.func65.trans (congrArg some (by kernel_rfl))⟩
  f71 := ⟨ "slices.heapSortOrdered[int64]", by kernel_rfl, Try.func66.trans (congrArg some (by kernel_rfl))⟩
  f72 := ⟨ "slices.breakPatternsOrdered[int64]", by kernel_rfl, Try.func67.trans (congrArg some (by kernel_rfl))⟩
  f73 := ⟨ "slices.choosePivotOrdered[int64]", by kernel_rfl, Try.func68.trans (congrArg some (by kernel_rfl))⟩
  f74 := ⟨ "slices.reverseRangeOrdered[int64]", by kernel_rfl, Try.func69.trans (congrArg some (by kernel_rfl))⟩
  f75 := ⟨ "slices.partialInsertionSortOrdered[int64]", by kernel_rfl, Try.func70.trans (congrArg some (by kernel_rfl))⟩
  f76 := ⟨ "slices.partitionEqualOrdered[int64]", by kernel_rfl, Try.func72.trans (congrArg some (by kernel_rfl))⟩
  f77 := ⟨ "slices.partitionOrdered[int64]", by kernel_rfl, Try.func73.trans (congrArg some (by kernel_rfl))⟩
  f78 := by kernel_rfl
  f79 := by kernel_rfl
  f88 := ⟨ "slices.siftDownOrdered[int64]", by kernel_rfl, Try.func77.trans (congrArg some (by kernel_rfl))⟩
  f89 := by kernel_rfl
  f90 := by kernel_rfl
  f91 := ⟨ "slices.medianAdjacentOrdered[int64]", by kernel_rfl, Try.func80.trans (congrArg some (by kernel_rfl))⟩
  f92 := ⟨ "slices.medianOrdered[int64]", by kernel_rfl, Try.func81.trans (congrArg some (by kernel_rfl))⟩
  f96 := ⟨ "slices.order2Ordered[int64]", by kernel_rfl, Try.func83.trans (congrArg some (by kernel_rfl))⟩
  t0 := Try.underlying0
  a0 := Try.isAgg0
  z0 := Try.sizeOf0
  v0 := Try.zeroValue0
  t3 := Try.underlying3
  a3 := Try.isAgg3
  z3 := Try.sizeOf3
  v3 := Try.zeroValue3
  t4 := Try.underlying4
  a4 := Try.isAgg4
  z4 := Try.sizeOf4
  v4 := Try.zeroValue4
  t5 := Try.underlying5
  a5 := Try.isAgg5
  z5 := Try.sizeOf5
  v5 := Try.zeroValue5
  t9 := Try.underlying9
  a9 := Try.isAgg9
  z9 := Try.sizeOf9
  v9 := Try.zeroValue9
  t22 := Try.underlying30
  a22 := Try.isAgg30
  z22 := Try.sizeOf30
  v22 := Try.zeroValue30
  t23 := Try.underlying2
  a23 := Try.isAgg2
  z23 := Try.sizeOf2
  v23 := Try.zeroValue2
  t44 := Try.underlying111
  a44 := Try.isAgg111
  z44 := Try.sizeOf111
  v44 := Try.zeroValue111
  t51 := Try.underlying90
  a51 := Try.isAgg90
  z51 := Try.sizeOf90
  v51 := Try.zeroValue90
  t60 := Try.underlying105
  a60 := Try.isAgg105
  z60 := Try.sizeOf105
  v60 := Try.zeroValue105
  t61 := Try.underlying106
  a61 := Try.isAgg106
  z61 := Try.sizeOf106
  v61 := Try.zeroValue106
  t67 := Try.underlying114
  a67 := Try.isAgg114
  z67 := Try.sizeOf114
  v67 := Try.zeroValue114
  t69 := Try.underlying116
  a69 := Try.isAgg116
  z69 := Try.sizeOf116
  v69 := Try.zeroValue116
  t75 := Try.underlying118
  a75 := Try.isAgg118
  z75 := Try.sizeOf118
  v75 := Try.zeroValue118
  t79 := Try.underlying122
  a79 := Try.isAgg122
  z79 := Try.sizeOf122
  v79 := Try.zeroValue122
  t83 := Try.underlying124
  a83 := Try.isAgg124
  z83 := Try.sizeOf124
  v83 := Try.zeroValue124
  t84 := Try.underlying125
  a84 := Try.isAgg125
  z84 := Try.sizeOf125
  v84 := Try.zeroValue125

namespace Ytckbhdokfkabfaa
theorem flat_iE (l : List Int) : l.flatMap iE = l.map (Value.int .i64) := by
  induction l with
  | nil => rfl
  | cons x r ih => rw [List.flatMap_cons, ih]; rfl
def sortL (zs : List Int) : List Int := zs.mergeSort fun x y => decide (x ≤ y)
theorem sortL_len (zs : List Int) : (sortL zs).length = zs.length := List.length_mergeSort zs
theorem sort_o (w : World) (base g cap : Nat) (zs : List Int) (h : OwnL iE 1 2 base w (.slice (some ⟨g, 0, none⟩) zs.length cap) zs) (hl : zs.length ≤ 400) :
    Calls Try.prog 31 #[.slice (some ⟨g, 0, none⟩) zs.length cap] w fun e w' => e = .returned (.tuple #[]) ∧ OwnL iE 1 2 base w' (.slice (some ⟨g, 0, none⟩) zs.length cap) (sortL zs) ∧ w.grownBy w' (some g) := by
  unfold OwnL at h
  rw [flat_iE] at h
  obtain ⟨g', cap', e1, hb, hlt, hn, hm, _, hH⟩ := Lib.holds_of_ownsRow h (by simp)
  injection e1 with e1 _ e3
  injection e1 with e1
  injection e1 with e1
  subst e1 e3
  have h2 := h.2
  rcases h2 with ⟨h0, _⟩ | ⟨g', cap', cur, e1, _, hg, hn', hm', hs, ht⟩
  · cases h0
  injection e1 with e1 _ e3
  injection e1 with e1
  injection e1 with e1
  subst e1 e3
  refine (AnyG.slices_Sort_int Try.laysSort g 0 cap zs w hH hlt (by omega)).mono ?_
  rintro e w' ⟨rfl, n, os, rfl⟩
  refine ⟨rfl, ?_, grownBy_sortedI _⟩
  unfold OwnL
  rw [flat_iE, sortL_len]
  exact ownsRow_sortedI (ss := zs) (ts := sortL zs) (sortL_len zs) hb hg hn' hm' hs
end Ytckbhdokfkabfaa
end Go.Proofs
