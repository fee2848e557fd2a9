/-
  Chapter 58: slices.Sort and slices.Compact at []int64: the shelf's contracts, laid at this program; in words of a slice of the call's own.
-/
import Derived.Test.YtdbiihfoafoljaaGreatDoorBase
import Derived.Test.YtdbiihfoafoljaaGreatDoorRows
import Derived.WalkKit
import Derived.Shelf.SlicesG.CompactI
import Derived.Shelf.SortG.Plain
import Derived.Shelf.SlGeneric
import Derived.Sort.OwnSortedInts
import Derived.Lib.OwnBridge
set_option linter.unusedSimpArgs false
set_option linter.unusedVariables false
namespace Go.Proofs
open Go.Shelf Go.RowKit

set_option maxRecDepth 100000
set_option maxHeartbeats 4000000
def Tryz.laysSort_ren : Go.Shelf.Ren := ⟨fun | 53 => 35 | 64 => 67 | 63 => 66 | 78 => 103 | 79 => 104 | 70 => 94 | 71 => 95 | 72 => 96 | 73 => 97 | 74 => 98 | 75 => 99 | 59 => 100 | 76 => 101 | 77 => 102 | 88 => 136 | 89 => 137 | 90 => 138 | 91 => 139 | 92 => 140 | 68 => 141 | 96 => 164 | n => n, fun | 22 => 77 | 23 => 2 | 3 => 3 | 51 => 113 | 0 => 0 | 67 => 142 | 69 => 108 | 4 => 4 | 61 => 134 | 60 => 133 | 44 => 139 | 5 => 5 | 9 => 9 | 75 => 171 | 79 => 175 | 83 => 199 | 84 => 83 | n => n, fun n => n⟩
theorem Tryz.laysSort : Go.Proofs.SlLaysN.n53 Go.Proofs.Tryz.prog Tryz.laysSort_ren where
  mixed := by kernel_rfl
  f53 := ⟨ "slices.Sort[[]int64,int64]", by kernel_rfl, Go.Proofs.Tryz.func35.trans (congrArg some (by kernel_rfl))⟩
  f59 := ⟨ "cmp.Less[int64]", by kernel_rfl, Go.Proofs.Tryz.func100.trans (congrArg some (by kernel_rfl))⟩
  f63 := ⟨ "slices.pdqsortOrdered[int64]", by kernel_rfl, Go.Proofs.Tryz.func66.trans (congrArg some (by kernel_rfl))⟩
  f64 := by kernel_rfl
  f68 := ⟨ "cmp.isNaN[int64]", by kernel_rfl, Go.Proofs.Tryz.func141.trans (congrArg some (by kernel_rfl))⟩
  f70 := ⟨ "slices.insertionSortOrdered[int64]", by kernel_rfl, Go.Proofs.Tryz.func94.trans (congrArg some (by kernel_rfl))⟩
  f71 := ⟨ "slices.heapSortOrdered[int64]", by kernel_rfl, Go.Proofs.Tryz.func95.trans (congrArg some (by kernel_rfl))⟩
  f72 := ⟨ "slices.breakPatternsOrdered[int64]", by kernel_rfl, Go.Proofs.Tryz.func96.trans (congrArg some (by kernel_rfl))⟩
  f73 := ⟨ "slices.choosePivotOrdered[int64]", by kernel_rfl, Go.Proofs.Tryz.func97.trans (congrArg some (by kernel_rfl))⟩
  f74 := ⟨ "slices.reverseRangeOrdered[int64]", by kernel_rfl, Go.Proofs.Tryz.func98.trans (congrArg some (by kernel_rfl))⟩
  f75 := ⟨ "slices.partialInsertionSortOrdered[int64]", by kernel_rfl, Go.Proofs.Tryz.func99.trans (congrArg some (by kernel_rfl))⟩
  f76 := ⟨ "slices.partitionEqualOrdered[int64]", by kernel_rfl, Go.Proofs.Tryz.func101.trans (congrArg some (by kernel_rfl))⟩
  f77 := ⟨ "slices.partitionOrdered[int64]", by kernel_rfl, Go.Proofs.Tryz.func102.trans (congrArg some (by kernel_rfl))⟩
  f78 := by kernel_rfl
  f79 := by kernel_rfl
  f88 := ⟨ "slices.siftDownOrdered[int64]", by kernel_rfl, Go.Proofs.Tryz.func136.trans (congrArg some (by kernel_rfl))⟩
  f89 := by kernel_rfl
  f90 := by kernel_rfl
  f91 := ⟨ "slices.medianAdjacentOrdered[int64]", by kernel_rfl, Go.Proofs.Tryz.func139.trans (congrArg some (by kernel_rfl))⟩
  f92 := ⟨ "slices.medianOrdered[int64]", by kernel_rfl, Go.Proofs.Tryz.func140.trans (congrArg some (by kernel_rfl))⟩
  f96 := ⟨ "slices.order2Ordered[int64]", by kernel_rfl, Go.Proofs.Tryz.func164.trans (congrArg some (by kernel_rfl))⟩
  t0 := Go.Proofs.Tryz.underlying0
  a0 := Go.Proofs.Tryz.isAgg0
  z0 := Go.Proofs.Tryz.sizeOf0
  v0 := Go.Proofs.Tryz.zeroValue0
  t3 := Go.Proofs.Tryz.underlying3
  a3 := Go.Proofs.Tryz.isAgg3
  z3 := Go.Proofs.Tryz.sizeOf3
  v3 := Go.Proofs.Tryz.zeroValue3
  t4 := Go.Proofs.Tryz.underlying4
  a4 := Go.Proofs.Tryz.isAgg4
  z4 := Go.Proofs.Tryz.sizeOf4
  v4 := Go.Proofs.Tryz.zeroValue4
  t5 := Go.Proofs.Tryz.underlying5
  a5 := Go.Proofs.Tryz.isAgg5
  z5 := Go.Proofs.Tryz.sizeOf5
  v5 := Go.Proofs.Tryz.zeroValue5
  t9 := Go.Proofs.Tryz.underlying9
  a9 := Go.Proofs.Tryz.isAgg9
  z9 := Go.Proofs.Tryz.sizeOf9
  v9 := Go.Proofs.Tryz.zeroValue9
  t22 := Go.Proofs.Tryz.underlying77
  a22 := Go.Proofs.Tryz.isAgg77
  z22 := Go.Proofs.Tryz.sizeOf77
  v22 := Go.Proofs.Tryz.zeroValue77
  t23 := Go.Proofs.Tryz.underlying2
  a23 := Go.Proofs.Tryz.isAgg2
  z23 := Go.Proofs.Tryz.sizeOf2
  v23 := Go.Proofs.Tryz.zeroValue2
  t44 := Go.Proofs.Tryz.underlying139
  a44 := Go.Proofs.Tryz.isAgg139
  z44 := Go.Proofs.Tryz.sizeOf139
  v44 := Go.Proofs.Tryz.zeroValue139
  t51 := Go.Proofs.Tryz.underlying113
  a51 := Go.Proofs.Tryz.isAgg113
  z51 := Go.Proofs.Tryz.sizeOf113
  v51 := Go.Proofs.Tryz.zeroValue113
  t60 := Go.Proofs.Tryz.underlying133
  a60 := Go.Proofs.Tryz.isAgg133
  z60 := Go.Proofs.Tryz.sizeOf133
  v60 := Go.Proofs.Tryz.zeroValue133
  t61 := Go.Proofs.Tryz.underlying134
  a61 := Go.Proofs.Tryz.isAgg134
  z61 := Go.Proofs.Tryz.sizeOf134
  v61 := Go.Proofs.Tryz.zeroValue134
  t67 := Go.Proofs.Tryz.underlying142
  a67 := Go.Proofs.Tryz.isAgg142
  z67 := Go.Proofs.Tryz.sizeOf142
  v67 := Go.Proofs.Tryz.zeroValue142
  t69 := Go.Proofs.Tryz.underlying108
  a69 := Go.Proofs.Tryz.isAgg108
  z69 := Go.Proofs.Tryz.sizeOf108
  v69 := Go.Proofs.Tryz.zeroValue108
  t75 := Go.Proofs.Tryz.underlying171
  a75 := Go.Proofs.Tryz.isAgg171
  z75 := Go.Proofs.Tryz.sizeOf171
  v75 := Go.Proofs.Tryz.zeroValue171
  t79 := Go.Proofs.Tryz.underlying175
  a79 := Go.Proofs.Tryz.isAgg175
  z79 := Go.Proofs.Tryz.sizeOf175
  v79 := Go.Proofs.Tryz.zeroValue175
  t83 := Go.Proofs.Tryz.underlying199
  a83 := Go.Proofs.Tryz.isAgg199
  z83 := Go.Proofs.Tryz.sizeOf199
  v83 := Go.Proofs.Tryz.zeroValue199
  t84 := Go.Proofs.Tryz.underlying83
  a84 := Go.Proofs.Tryz.isAgg83
  z84 := Go.Proofs.Tryz.sizeOf83
  v84 := Go.Proofs.Tryz.zeroValue83
def Tryz.laysCompact_ren : Go.Shelf.Ren := ⟨fun | 43 => 37 | n => n, fun | 22 => 77 | 23 => 2 | 3 => 3 | 4 => 4 | 0 => 0 | n => n, fun n => n⟩
theorem Tryz.laysCompact : Go.Proofs.SlLaysN.n43 Go.Proofs.Tryz.prog Tryz.laysCompact_ren where
  mixed := by kernel_rfl
  f43 := ⟨ "slices.Compact[[]int64,int64]", by kernel_rfl, Go.Proofs.Tryz.func37.trans (congrArg some (by kernel_rfl))⟩
  t0 := Go.Proofs.Tryz.underlying0
  a0 := Go.Proofs.Tryz.isAgg0
  z0 := Go.Proofs.Tryz.sizeOf0
  v0 := Go.Proofs.Tryz.zeroValue0
  t3 := Go.Proofs.Tryz.underlying3
  a3 := Go.Proofs.Tryz.isAgg3
  z3 := Go.Proofs.Tryz.sizeOf3
  v3 := Go.Proofs.Tryz.zeroValue3
  t4 := Go.Proofs.Tryz.underlying4
  a4 := Go.Proofs.Tryz.isAgg4
  z4 := Go.Proofs.Tryz.sizeOf4
  v4 := Go.Proofs.Tryz.zeroValue4
  t22 := Go.Proofs.Tryz.underlying77
  a22 := Go.Proofs.Tryz.isAgg77
  z22 := Go.Proofs.Tryz.sizeOf77
  v22 := Go.Proofs.Tryz.zeroValue77
  t23 := Go.Proofs.Tryz.underlying2
  a23 := Go.Proofs.Tryz.isAgg2
  z23 := Go.Proofs.Tryz.sizeOf2
  v23 := Go.Proofs.Tryz.zeroValue2
  i23 := by kernel_rfl

namespace YtdbiihfoafoljaaGreatDoor
def inE (n : Int) : List Value := [.int .i64 n]
theorem inE_len (n : Int) : (inE n).length = 1 := rfl
theorem flat_inE (l : List Int) : l.flatMap inE = l.map (Value.int .i64) := by
  induction l with
  | nil => rfl
  | cons x r ih => rw [List.flatMap_cons, ih]; rfl
def sortL (zs : List Int) : List Int := zs.mergeSort fun x y => decide (x ≤ y)
theorem sortL_len (zs : List Int) : (sortL zs).length = zs.length := List.length_mergeSort zs
theorem sort_o (w : World) (base g cap : Nat) (zs : List Int) (h : OwnL inE 1 2 base w (.slice (some ⟨g, 0, none⟩) zs.length cap) zs) (hl : zs.length ≤ 400) :
    Calls Tryz.prog 35 #[.slice (some ⟨g, 0, none⟩) zs.length cap] w fun e w' => e = .returned (.tuple #[]) ∧ OwnL inE 1 2 base w' (.slice (some ⟨g, 0, none⟩) zs.length cap) (sortL zs) ∧ w.grownBy w' (some g) := by
  unfold OwnL at h
  rw [flat_inE] at h
  obtain ⟨g', cap', e1, hb, hlt, hn, hm, _, hH⟩ := Lib.holds_of_ownsRow h (by simp)
  injection e1 with e1 _ e3
  injection e1 with e1
  injection e1 with e1
  subst e1 e3
  have h2 := h.2
  rcases h2 with ⟨h0, _⟩ | ⟨g', cap', cur, e1, _, hg, hn', hm', hs, ht⟩
  · cases h0
  injection e1 with e1 _ e3
  injection e1 with e1
  injection e1 with e1
  subst e1 e3
  refine (AnyG.slices_Sort_int Tryz.laysSort g 0 cap zs w hH hlt (by omega)).mono ?_
  rintro e w' ⟨rfl, n, os, rfl⟩
  refine ⟨rfl, ?_, grownBy_sortedI _⟩
  unfold OwnL
  rw [flat_inE, sortL_len]
  exact ownsRow_sortedI (ss := zs) (ts := sortL zs) (sortL_len zs) hb hg hn' hm' hs
theorem compact_o (w : World) (base g cap : Nat) (zs : List Int) (h : OwnL inE 1 2 base w (.slice (some ⟨g, 0, none⟩) zs.length cap) zs) (hl : zs.length ≤ 400) :
    Calls Tryz.prog 37 #[.slice (some ⟨g, 0, none⟩) zs.length cap] w fun e w' => e = .returned (.slice (some ⟨g, 0, none⟩) (Lib.compact zs).length cap) ∧
      OwnL inE 1 2 base w' (.slice (some ⟨g, 0, none⟩) zs.length cap) (Lib.compact zs ++ List.replicate (zs.length - (Lib.compact zs).length) 0) ∧ w.grownBy w' (some g) := by
  unfold OwnL at h
  rw [flat_inE] at h
  obtain ⟨g', cap', e1, hb, hlt, hn, hm, _, hH⟩ := Lib.holds_of_ownsRow h (by simp)
  injection e1 with e1 _ e3
  injection e1 with e1
  injection e1 with e1
  subst e1 e3
  refine (AnyG.slices_Compact_int Tryz.laysCompact g 0 cap zs w hH (by omega) hn).mono ?_
  rintro e w' ⟨rfl, q, rfl⟩
  have hlen : (Lib.compact zs ++ List.replicate (zs.length - (Lib.compact zs).length) 0).length = zs.length := by
    have := Lib.compact_length_le zs
    rw [List.length_append, List.length_replicate]; omega
  refine ⟨rfl, ?_, ?_⟩
  · have := Lib.ownsRow_putRow (q := q) (k := zs.length) (ys := Lib.compact zs ++ List.replicate (zs.length - (Lib.compact zs).length) 0) h hlen (Nat.le_refl _)
    rw [List.take_of_length_le (by omega)] at this
    unfold OwnL
    rw [flat_inE, hlen]
    exact this
  · have := grownBy_sortedI (w := w) (g := g) (n := q) (os := #[]) (Lib.compact zs ++ List.replicate (zs.length - (Lib.compact zs).length) 0).toArray
    rwa [Sort.grow_empty] at this
end YtdbiihfoafoljaaGreatDoor
end Go.Proofs
