/-
  Chapter 54: slices.Sort and slices.Compact at []string: the shelf's contracts, laid at this program; in words of a slice of the call's own.
-/
import Derived.Test.YtomjgjfhgjblbaaSqP54
import Derived.Test.YtomjgjfhgjblbaaApp
import Derived.WalkKit
import Derived.Shelf.SlicesG.CompactS
import Derived.Shelf.SortG.Plain
import Derived.Shelf.SortG.SortNone
import Derived.Shelf.SlGeneric
import Derived.Sort.OwnSorted
import Derived.Lib.OwnBridge
namespace Go.Proofs
open Go.Shelf Go.RowKit

set_option maxRecDepth 100000
set_option maxHeartbeats 4000000
def Try.laysSortS_ren : Go.Shelf.Ren := ⟨fun | 54 => 14 | 64 => 26 | 65 => 25 | 78 => 40 | 79 => 41 | 80 => 31 | 81 => 32 | 82 => 33 | 83 => 34 | 84 => 35 | 85 => 36 | 61 => 37 | 86 => 38 | 87 => 39 | 93 => 44 | 89 => 45 | 90 => 46 | 94 => 47 | 95 => 48 | 69 => 43 | 97 => 49 | n => n, fun | 25 => 29 | 26 => 9 | 3 => 3 | 51 => 57 | 0 => 0 | 67 => 73 | 69 => 48 | 4 => 4 | 61 => 65 | 60 => 64 | 44 => 70 | 5 => 5 | 9 => 9 | 75 => 76 | 79 => 80 | 83 => 82 | 84 => 83 | n => n, fun n => n⟩
theorem Try.laysSortS : SlLaysN.n54 Try.prog Try.laysSortS_ren where
  mixed := by kernel_rfl
  f54 := ⟨ "slices.Sort[[]string,string]", by kernel_rfl, Try.func14.trans (congrArg some (by kernel_rfl))⟩
  f61 := ⟨ "cmp.Less[string]", by kernel_rfl, Try.func37.trans (congrArg some (by kernel_rfl))⟩
  f64 := Try.func26.trans (congrArg some (by kernel_rfl))
  f65 := ⟨ "slices.pdqsortOrdered[string]", by kernel_rfl, Try.func25.trans (congrArg some (by kernel_rfl))⟩
  f69 := ⟨ "cmp.isNaN[string]", by kernel_rfl, Try.func43.trans (congrArg some (by kernel_rfl))⟩
  f78 := Try.func40.trans (congrArg some (by kernel_rfl))
  f79 := Try.func41.trans (congrArg some (by kernel_rfl))
  f80 := ⟨ "slices.insertionSortOrdered[string]", by kernel_rfl, Try.func31.trans (congrArg some (by kernel_rfl))⟩
  f81 := ⟨ "slices.heapSortOrdered[string]", by kernel_rfl, Try.func32.trans (congrArg some (by kernel_rfl))⟩
  f82 := ⟨ "slices.breakPatternsOrdered[string]", by kernel_rfl, Try.func33.trans (congrArg some (by kernel_rfl))⟩
  f83 := ⟨ "slices.choosePivotOrdered[string]", by kernel_rfl, Try.func34.trans (congrArg some (by kernel_rfl))⟩
  f84 := ⟨ "slices.reverseRangeOrdered[string]", by kernel_rfl, Try.func35.trans (congrArg some (by kernel_rfl))⟩
  f85 := ⟨ "slices.partialInsertionSortOrdered[string]", by kernel_rfl, Try.func36.trans (congrArg some (by kernel_rfl))⟩
  f86 := ⟨ "slices.partitionEqualOrdered[string]", by kernel_rfl, Try.func38.trans (congrArg some (by kernel_rfl))⟩
  f87 := ⟨ "slices.partitionOrdered[string]", by kernel_rfl, Try.func39.trans (congrArg some (by kernel_rfl))⟩
  f89 := Try.func45.trans (congrArg some (by kernel_rfl))
  f90 := Try.func46.trans (congrArg some (by kernel_rfl))
  f93 := ⟨ "slices.siftDownOrdered[string]", by kernel_rfl, Try.func44.trans (congrArg some (by kernel_rfl))⟩
  f94 := ⟨ "slices.medianAdjacentOrdered[string]", by kernel_rfl, Try.func47.trans (congrArg some (by kernel_rfl))⟩
  f95 := ⟨ "slices.medianOrdered[string]", by kernel_rfl, Try.func48.trans (congrArg some (by kernel_rfl))⟩
  f97 := ⟨ "slices.order2Ordered[string]", by kernel_rfl, Try.func49.trans (congrArg some (by kernel_rfl))⟩
  t0 := Try.underlying0
  a0 := Try.isAgg0
  z0 := Try.sizeOf0
  v0 := Try.zeroValue0
  t3 := Try.underlying3
  a3 := Try.isAgg3
  z3 := Try.sizeOf3
  v3 := Try.zeroValue3
  t4 := Try.underlying4
  a4 := Try.isAgg4
  z4 := Try.sizeOf4
  v4 := Try.zeroValue4
  t5 := Try.underlying5
  a5 := Try.isAgg5
  z5 := Try.sizeOf5
  v5 := Try.zeroValue5
  t9 := Try.underlying9
  a9 := Try.isAgg9
  z9 := Try.sizeOf9
  v9 := Try.zeroValue9
  t25 := Try.underlying29
  a25 := Try.isAgg29
  z25 := Try.sizeOf29
  v25 := Try.zeroValue29
  t26 := Try.underlying9
  a26 := Try.isAgg9
  z26 := Try.sizeOf9
  v26 := Try.zeroValue9
  t44 := Try.underlying70
  a44 := Try.isAgg70
  z44 := Try.sizeOf70
  v44 := Try.zeroValue70
  t51 := Try.underlying57
  a51 := Try.isAgg57
  z51 := Try.sizeOf57
  v51 := Try.zeroValue57
  t60 := Try.underlying64
  a60 := Try.isAgg64
  z60 := Try.sizeOf64
  v60 := Try.zeroValue64
  t61 := Try.underlying65
  a61 := Try.isAgg65
  z61 := Try.sizeOf65
  v61 := Try.zeroValue65
  t67 := Try.underlying73
  a67 := Try.isAgg73
  z67 := Try.sizeOf73
  v67 := Try.zeroValue73
  t69 := Try.underlying48
  a69 := Try.isAgg48
  z69 := Try.sizeOf48
  v69 := Try.zeroValue48
  t75 := Try.underlying76
  a75 := Try.isAgg76
  z75 := Try.sizeOf76
  v75 := Try.zeroValue76
  t79 := Try.underlying80
  a79 := Try.isAgg80
  z79 := Try.sizeOf80
  v79 := Try.zeroValue80
  t83 := Try.underlying82
  a83 := Try.isAgg82
  z83 := Try.sizeOf82
  v83 := Try.zeroValue82
  t84 := Try.underlying83
  a84 := Try.isAgg83
  z84 := Try.sizeOf83
  v84 := Try.zeroValue83
def Try.laysCompactS_ren : Go.Shelf.Ren := ⟨fun | 44 => 15 | n => n, fun | 25 => 29 | 26 => 9 | 3 => 3 | 4 => 4 | 0 => 0 | n => n, fun n => n⟩
theorem Try.laysCompactS : SlLaysN.n44 Try.prog Try.laysCompactS_ren where
  mixed := by kernel_rfl
  f44 := ⟨ "slices.Compact[[]string,string]", by kernel_rfl, Try.func15.trans (congrArg some (by kernel_rfl))⟩
  t0 := Try.underlying0
  a0 := Try.isAgg0
  z0 := Try.sizeOf0
  v0 := Try.zeroValue0
  t3 := Try.underlying3
  a3 := Try.isAgg3
  z3 := Try.sizeOf3
  v3 := Try.zeroValue3
  t4 := Try.underlying4
  a4 := Try.isAgg4
  z4 := Try.sizeOf4
  v4 := Try.zeroValue4
  t25 := Try.underlying29
  a25 := Try.isAgg29
  z25 := Try.sizeOf29
  v25 := Try.zeroValue29
  t26 := Try.underlying9
  a26 := Try.isAgg9
  z26 := Try.sizeOf9
  v26 := Try.zeroValue9
  i26 := by kernel_rfl

namespace Ytomjgjfhgjblbaa
def strE (z : Bs) : List Value := [encStr z]
theorem strE_len (z : Bs) : (strE z).length = 1 := rfl
theorem flat_strE (l : List Bs) : l.flatMap strE = l.map encStr := by
  induction l with
  | nil => rfl
  | cons x r ih => rw [List.flatMap_cons, ih]; rfl
theorem encStr_of (p : ByteArray) : encStr p.data.toList = .string p := rfl
theorem sort_o (w : World) (base g cap : Nat) (zs : List Bs) (h : OwnL strE 1 9 base w (.slice (some ⟨g, 0, none⟩) zs.length cap) zs) (hl : zs.length ≤ 400) :
    Calls Try.prog 14 #[.slice (some ⟨g, 0, none⟩) zs.length cap] w fun e w' => e = .returned (.tuple #[]) ∧ OwnL strE 1 9 base w' (.slice (some ⟨g, 0, none⟩) zs.length cap) (sortB zs) ∧ w.grownBy w' (some g) := by
  unfold OwnL at h
  rw [flat_strE] at h
  obtain ⟨g', cap', e1, hb, hlt, hn, hm, _, hH⟩ := Lib.holds_of_ownsRow h (by simp)
  injection e1 with e1 _ e3
  injection e1 with e1
  injection e1 with e1
  subst e1 e3
  have h2 := h.2
  rcases h2 with ⟨h0, _⟩ | ⟨g', cap', cur, e1, _, hg, hn', hm', hs, ht⟩
  · cases h0
  injection e1 with e1 _ e3
  injection e1 with e1
  injection e1 with e1
  subst e1 e3
  refine (AnyG.slices_Sort_string Try.laysSortS g 0 cap zs w hH hlt (by omega)).mono ?_
  rintro e w' ⟨rfl, n, os, rfl⟩
  refine ⟨rfl, ?_, grownBy_sorted _⟩
  unfold OwnL
  rw [flat_strE, sortB_len]
  exact ownsRow_sorted (ss := zs) (ts := sortB zs) (sortB_len zs) hb hg hn' hm' hs
theorem compact_o (w : World) (base g cap : Nat) (zs : List Bs) (h : OwnL strE 1 9 base w (.slice (some ⟨g, 0, none⟩) zs.length cap) zs) (hl : zs.length ≤ 400) :
    Calls Try.prog 15 #[.slice (some ⟨g, 0, none⟩) zs.length cap] w fun e w' => e = .returned (.slice (some ⟨g, 0, none⟩) (Lib.compact zs).length cap) ∧
      OwnL strE 1 9 base w' (.slice (some ⟨g, 0, none⟩) zs.length cap) (Lib.compact zs ++ List.replicate (zs.length - (Lib.compact zs).length) []) ∧ w.grownBy w' (some g) := by
  unfold OwnL at h
  rw [flat_strE] at h
  obtain ⟨g', cap', e1, hb, hlt, hn, hm, _, hH⟩ := Lib.holds_of_ownsRow h (by simp)
  injection e1 with e1 _ e3
  injection e1 with e1
  injection e1 with e1
  subst e1 e3
  refine (AnyG.slices_Compact_string Try.laysCompactS g 0 cap zs w hH (by omega) hn).mono ?_
  rintro e w' ⟨rfl, q, rfl⟩
  have hlen : (Lib.compact zs ++ List.replicate (zs.length - (Lib.compact zs).length) []).length = zs.length := by
    have := Lib.compact_length_le zs
    rw [List.length_append, List.length_replicate]; omega
  refine ⟨rfl, ?_, ?_⟩
  · have := Lib.ownsRow_putRow (q := q) (k := zs.length) (ys := Lib.compact zs ++ List.replicate (zs.length - (Lib.compact zs).length) []) h hlen (Nat.le_refl _)
    rw [List.take_of_length_le (by omega)] at this
    unfold OwnL
    rw [flat_strE, hlen]
    exact this
  · have := grownBy_sorted (w := w) (g := g) (n := q) (os := #[]) (Lib.compact zs ++ List.replicate (zs.length - (Lib.compact zs).length) []).toArray
    rwa [Sort.grow_empty] at this
theorem sort_n (w : World) (A : Option Addr) (cap : Nat) : Calls Try.prog 14 #[.slice A 0 cap] w fun e w' => e = .returned (.tuple #[]) ∧ w' = w := AnyG.slices_Sort_string_none Try.laysSortS A cap w
theorem compact_n (w : World) (A : Option Addr) (cap : Nat) : Calls Try.prog 15 #[.slice A 0 cap] w fun e w' => e = .returned (.slice A 0 cap) ∧ w' = w := AnyG.slices_Compact_string_empty Try.laysCompactS A cap w
end Ytomjgjfhgjblbaa
end Go.Proofs
