/-
  Chapter 58: slices.Sort and slices.Compact at []int64: the shelf's contracts, laid at this program; in words of a slice of the call's own.
-/
import Derived.Test.YtimmlffgokgekaaBase
import Derived.Test.YtimmlffgokgekaaRows
import Derived.WalkKit
import Derived.Shelf.SlicesG.CompactI
import Derived.Shelf.SortG.Plain
import Derived.Shelf.SlGeneric
import Derived.Sort.OwnSortedInts
import Derived.Lib.OwnBridge
set_option linter.unusedSimpArgs false
set_option linter.unusedVariables false
namespace Go.Proofs
open Go.Shelf Go.RowKit

set_option maxRecDepth 100000
set_option maxHeartbeats 4000000
def Try.laysSort_ren : Go.Shelf.Ren := ⟨fun | 53 => 38 | 64 => 56 | 63 => 55 | 78 => 73 | 79 => 74 | 70 => 64 | 71 => 65 | 72 => 66 | 73 => 67 | 74 => 68 | 75 => 69 | 59 => 70 | 76 => 71 | 77 => 72 | 88 => 77 | 89 => 78 | 90 => 79 | 91 => 80 | 92 => 81 | 68 => 82 | 96 => 84 | n => n, fun | 22 => 80 | 23 => 2 | 3 => 3 | 51 => 107 | 0 => 0 | 67 => 128 | 69 => 130 | 4 => 4 | 61 => 120 | 60 => 119 | 44 => 125 | 5 => 5 | 9 => 9 | 75 => 131 | 79 => 135 | 83 => 138 | 84 => 98 | n => n, fun n => n⟩
theorem Try.laysSort : SlLaysN.n53 Try.prog Try.laysSort_ren where
  mixed := by kernel_rfl
  f53 := ⟨ "slices.Sort[[]int64,int64]", by kernel_rfl, Try.func38.trans (congrArg some (by kernel_rfl))⟩
  f59 := ⟨ "cmp.Less[int64]", by kernel_rfl, Try.func70.trans (congrArg some (by kernel_rfl))⟩
  f63 := ⟨ "slices.pdqsortOrdered[int64]", by kernel_rfl, Try.func55.trans (congrArg some (by kernel_rfl))⟩
  f64 := by kernel_rfl
  f68 := ⟨ "cmp.isNaN[int64]", by kernel_rfl, Try.func82.trans (congrArg some (by kernel_rfl))⟩
  f70 := ⟨ "slices.insertionSortOrdered[int64]", by kernel_rfl, Try.func64.trans (congrArg some (by kernel_rfl))⟩
  f71 := ⟨ "slices.heapSortOrdered[int64]", by kernel_rfl, Try.func65.trans (congrArg some (by kernel_rfl))⟩
  f72 := ⟨ "slices.breakPatternsOrdered[int64]", by kernel_rfl, Try.func66.trans (congrArg some (by kernel_rfl))⟩
  f73 := ⟨ "slices.choosePivotOrdered[int64]", by kernel_rfl, Try.func67.trans (congrArg some (by kernel_rfl))⟩
  f74 := ⟨ "slices.reverseRangeOrdered[int64]", by kernel_rfl, Try.func68.trans (congrArg some (by kernel_rfl))⟩
  f75 := ⟨ "slices.partialInsertionSortOrdered[int64]", by kernel_rfl, Try.func69.trans (congrArg some (by kernel_rfl))⟩
  f76 := ⟨ "slices.partitionEqualOrdered[int64]", by kernel_rfl, Try.func71.trans (congrArg some (by kernel_rfl))⟩
  f77 := ⟨ "slices.partitionOrdered[int64]", by kernel_rfl, Try.func72.trans (congrArg some (by kernel_rfl))⟩
  f78 := by kernel_rfl
  f79 := by kernel_rfl
  f88 := ⟨ "slices.siftDownOrdered[int64]", by kernel_rfl, Try.func77.trans (congrArg some (by kernel_rfl))⟩
  f89 := by kernel_rfl
  f90 := by kernel_rfl
  f91 := ⟨ "slices.medianAdjacentOrdered[int64]", by kernel_rfl, Try.func80.trans (congrArg some (by kernel_rfl))⟩
  f92 := ⟨ "slices.medianOrdered[int64]", by kernel_rfl, Try.func81.trans (congrArg some (by kernel_rfl))⟩
  f96 := ⟨ "slices.order2Ordered[int64]", by kernel_rfl, Try.func84.trans (congrArg some (by kernel_rfl))⟩
  t0 := Try.underlying0
  a0 := Try.isAgg0
  z0 := Try.sizeOf0
  v0 := Try.zeroValue0
  t3 := Try.underlying3
  a3 := Try.isAgg3
  z3 := Try.sizeOf3
  v3 := Try.zeroValue3
  t4 := Try.underlying4
  a4 := Try.isAgg4
  z4 := Try.sizeOf4
  v4 := Try.zeroValue4
  t5 := Try.underlying5
  a5 := Try.isAgg5
  z5 := Try.sizeOf5
  v5 := Try.zeroValue5
  t9 := Try.underlying9
  a9 := Try.isAgg9
  z9 := Try.sizeOf9
  v9 := Try.zeroValue9
  t22 := Try.underlying80
  a22 := Try.isAgg80
  z22 := Try.sizeOf80
  v22 := Try.zeroValue80
  t23 := Try.underlying2
  a23 := Try.isAgg2
  z23 := Try.sizeOf2
  v23 := Try.zeroValue2
  t44 := Try.underlying125
  a44 := Try.isAgg125
  z44 := Try.sizeOf125
  v44 := Try.zeroValue125
  t51 := Try.underlying107
  a51 := Try.isAgg107
  z51 := Try.sizeOf107
  v51 := Try.zeroValue107
  t60 := Try.underlying119
  a60 := Try.isAgg119
  z60 := Try.sizeOf119
  v60 := Try.zeroValue119
  t61 := Try.underlying120
  a61 := Try.isAgg120
  z61 := Try.sizeOf120
  v61 := Try.zeroValue120
  t67 := Try.underlying128
  a67 := Try.isAgg128
  z67 := Try.sizeOf128
  v67 := Try.zeroValue128
  t69 := Try.underlying130
  a69 := Try.isAgg130
  z69 := Try.sizeOf130
  v69 := Try.zeroValue130
  t75 := Try.underlying131
  a75 := Try.isAgg131
  z75 := Try.sizeOf131
  v75 := Try.zeroValue131
  t79 := Try.underlying135
  a79 := Try.isAgg135
  z79 := Try.sizeOf135
  v79 := Try.zeroValue135
  t83 := Try.underlying138
  a83 := Try.isAgg138
  z83 := Try.sizeOf138
  v83 := Try.zeroValue138
  t84 := Try.underlying98
  a84 := Try.isAgg98
  z84 := Try.sizeOf98
  v84 := Try.zeroValue98
def Try.laysCompact_ren : Go.Shelf.Ren := ⟨fun | 43 => 40 | n => n, fun | 22 => 80 | 23 => 2 | 3 => 3 | 4 => 4 | 0 => 0 | n => n, fun n => n⟩
theorem Try.laysCompact : SlLaysN.n43 Try.prog Try.laysCompact_ren where
  mixed := by kernel_rfl
  f43 := ⟨ "slices.Compact[[]int64,int64]", by kernel_rfl, Try.func40.trans (congrArg some (by kernel_rfl))⟩
  t0 := Try.underlying0
  a0 := Try.isAgg0
  z0 := Try.sizeOf0
  v0 := Try.zeroValue0
  t3 := Try.underlying3
  a3 := Try.isAgg3
  z3 := Try.sizeOf3
  v3 := Try.zeroValue3
  t4 := Try.underlying4
  a4 := Try.isAgg4
  z4 := Try.sizeOf4
  v4 := Try.zeroValue4
  t22 := Try.underlying80
  a22 := Try.isAgg80
  z22 := Try.sizeOf80
  v22 := Try.zeroValue80
  t23 := Try.underlying2
  a23 := Try.isAgg2
  z23 := Try.sizeOf2
  v23 := Try.zeroValue2
  i23 := by kernel_rfl

namespace Ytimmlffgokgekaa
def inE (n : Int) : List Value := [.int .i64 n]
theorem inE_len (n : Int) : (inE n).length = 1 := rfl
theorem flat_inE (l : List Int) : l.flatMap inE = l.map (Value.int .i64) := by
  induction l with
  | nil => rfl
  | cons x r ih => rw [List.flatMap_cons, ih]; rfl
def sortL (zs : List Int) : List Int := zs.mergeSort fun x y => decide (x ≤ y)
theorem sortL_len (zs : List Int) : (sortL zs).length = zs.length := List.length_mergeSort zs
theorem sort_o (w : World) (base g cap : Nat) (zs : List Int) (h : OwnL inE 1 2 base w (.slice (some ⟨g, 0, none⟩) zs.length cap) zs) (hl : zs.length ≤ 400) :
    Calls Try.prog 38 #[.slice (some ⟨g, 0, none⟩) zs.length cap] w fun e w' => e = .returned (.tuple #[]) ∧ OwnL inE 1 2 base w' (.slice (some ⟨g, 0, none⟩) zs.length cap) (sortL zs) ∧ w.grownBy w' (some g) := by
  unfold OwnL at h
  rw [flat_inE] at h
  obtain ⟨g', cap', e1, hb, hlt, hn, hm, _, hH⟩ := Lib.holds_of_ownsRow h (by simp)
  injection e1 with e1 _ e3
  injection e1 with e1
  injection e1 with e1
  subst e1 e3
  have h2 := h.2
  rcases h2 with ⟨h0, _⟩ | ⟨g', cap', cur, e1, _, hg, hn', hm', hs, ht⟩
  · cases h0
  injection e1 with e1 _ e3
  injection e1 with e1
  injection e1 with e1
  subst e1 e3
  refine (AnyG.slices_Sort_int Try.laysSort g 0 cap zs w hH hlt (by omega)).mono ?_
  rintro e w' ⟨rfl, n, os, rfl⟩
  refine ⟨rfl, ?_, grownBy_sortedI _⟩
  unfold OwnL
  rw [flat_inE, sortL_len]
  exact ownsRow_sortedI (ss := zs) (ts := sortL zs) (sortL_len zs) hb hg hn' hm' hs
theorem compact_o (w : World) (base g cap : Nat) (zs : List Int) (h : OwnL inE 1 2 base w (.slice (some ⟨g, 0, none⟩) zs.length cap) zs) (hl : zs.length ≤ 400) :
    Calls Try.prog 40 #[.slice (some ⟨g, 0, none⟩) zs.length cap] w fun e w' => e = .returned (.slice (some ⟨g, 0, none⟩) (Lib.compact zs).length cap) ∧
      OwnL inE 1 2 base w' (.slice (some ⟨g, 0, none⟩) zs.length cap) (Lib.compact zs ++ List.replicate (zs.length - (Lib.compact zs).length) 0) ∧ w.grownBy w' (some g) := by
  unfold OwnL at h
  rw [flat_inE] at h
  obtain ⟨g', cap', e1, hb, hlt, hn, hm, _, hH⟩ := Lib.holds_of_ownsRow h (by simp)
  injection e1 with e1 _ e3
  injection e1 with e1
  injection e1 with e1
  subst e1 e3
  refine (AnyG.slices_Compact_int Try.laysCompact g 0 cap zs w hH (by omega) hn).mono ?_
  rintro e w' ⟨rfl, q, rfl⟩
  have hlen : (Lib.compact zs ++ List.replicate (zs.length - (Lib.compact zs).length) 0).length = zs.length := by
    have := Lib.compact_length_le zs
    rw [List.length_append, List.length_replicate]; omega
  refine ⟨rfl, ?_, ?_⟩
  · have := Lib.ownsRow_putRow (q := q) (k := zs.length) (ys := Lib.compact zs ++ List.replicate (zs.length - (Lib.compact zs).length) 0) h hlen (Nat.le_refl _)
    rw [List.take_of_length_le (by omega)] at this
    unfold OwnL
    rw [flat_inE, hlen]
    exact this
  · have := grownBy_sortedI (w := w) (g := g) (n := q) (os := #[]) (Lib.compact zs ++ List.replicate (zs.length - (Lib.compact zs).length) 0).toArray
    rwa [Sort.grow_empty] at this
end Ytimmlffgokgekaa
end Go.Proofs
