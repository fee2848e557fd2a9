/-
  Chapter 12: slices.Sort and slices.Equal at []int.
-/
import Derived.Test.YtjlmlafiojpjmaaCrL
import Derived.Test.YtjlmlafiojpjmaaCrQ
import Derived.Test.YtjlmlafiojpjmaaRows
import Derived.WalkKit
import Derived.Shelf.SortG.Plain
import Derived.Shelf.SlGeneric
import Derived.Sort.OwnSortedInts
import Derived.Lib.OwnBridge
set_option linter.unusedSimpArgs false
set_option linter.unusedVariables false
namespace Go.Proofs
open Go.Shelf Go.RowKit
set_option maxRecDepth 100000
set_option maxHeartbeats 4000000
def Try.laysSort_ren : Go.Shelf.Ren := ⟨fun | 53 => 16 | 64 => 29 | 63 => 28 | 78 => 45 | 79 => 46 | 70 => 36 | 71 => 37 | 72 => 38 | 73 => 39 | 74 => 40 | 75 => 41 | 59 => 42 | 76 => 43 | 77 => 44 | 88 => 48 | 89 => 49 | 90 => 50 | 91 => 51 | 92 => 52 | 68 => 53 | 96 => 54 | n => n, fun | 22 => 27 | 23 => 3 | 3 => 3 | 51 => 65 | 0 => 0 | 67 => 82 | 69 => 84 | 4 => 4 | 61 => 74 | 60 => 73 | 44 => 79 | 5 => 5 | 9 => 9 | 75 => 86 | 79 => 90 | 83 => 93 | 84 => 94 | n => n, fun n => n⟩
theorem Try.laysSort : SlLaysN.n53 Try.prog Try.laysSort_ren where
  mixed := by kernel_rfl
  f53 := ⟨ "slices.Sort[[]int,int]", by kernel_rfl, Try.func16.trans (congrArg some (by kernel_rfl))⟩
  f59 := ⟨ "cmp.Less[int]", by kernel_rfl, Try.func42.trans (congrArg some (by kernel_rfl))⟩
  f63 := ⟨ "slices.pdqsortOrdered[int]", by kernel_rfl, Try.func28.trans (congrArg some (by kernel_rfl))⟩
  f64 := by kernel_rfl
  f68 := ⟨ "cmp.isNaN[int]", by kernel_rfl, Try.func53.trans (congrArg some (by kernel_rfl))⟩
  f70 := ⟨ "slices.insertionSortOrdered[int]", by kernel_rfl, Try.func36.trans (congrArg some (by kernel_rfl))⟩
  f71 := ⟨ "slices.heapSortOrdered[int]", by kernel_rfl, Try.func37.trans (congrArg some (by kernel_rfl))⟩
  f72 := ⟨ "slices.breakPatternsOrdered[int]", by kernel_rfl, Try.func38.trans (congrArg some (by kernel_rfl))⟩
  f73 := ⟨ "slices.choosePivotOrdered[int]", by kernel_rfl, Try.func39.trans (congrArg some (by kernel_rfl))⟩
  f74 := ⟨ "slices.reverseRangeOrdered[int]", by kernel_rfl, Try.func40.trans (congrArg some (by kernel_rfl))⟩
  f75 := ⟨ "slices.partialInsertionSortOrdered[int]", by kernel_rfl, Try.func41.trans (congrArg some (by kernel_rfl))⟩
  f76 := ⟨ "slices.partitionEqualOrdered[int]", by kernel_rfl, Try.func43.trans (congrArg some (by kernel_rfl))⟩
  f77 := ⟨ "slices.partitionOrdered[int]", by kernel_rfl, Try.func44.trans (congrArg some (by kernel_rfl))⟩
  f78 := by kernel_rfl
  f79 := by kernel_rfl
  f88 := ⟨ "slices.siftDownOrdered[int]", by kernel_rfl, Try.func48.trans (congrArg some (by kernel_rfl))⟩
  f89 := by kernel_rfl
  f90 := by kernel_rfl
  f91 := ⟨ "slices.medianAdjacentOrdered[int]", by kernel_rfl, Try.func51.trans (congrArg some (by kernel_rfl))⟩
  f92 := ⟨ "slices.medianOrdered[int]", by kernel_rfl, Try.func52.trans (congrArg some (by kernel_rfl))⟩
  f96 := ⟨ "slices.order2Ordered[int]", by kernel_rfl, Try.func54.trans (congrArg some (by kernel_rfl))⟩
  t0 := Try.underlying0
  a0 := Try.isAgg0
  z0 := Try.sizeOf0
  v0 := Try.zeroValue0
  t3 := Try.underlying3
  a3 := Try.isAgg3
  z3 := Try.sizeOf3
  v3 := Try.zeroValue3
  t4 := Try.underlying4
  a4 := Try.isAgg4
  z4 := Try.sizeOf4
  v4 := Try.zeroValue4
  t5 := Try.underlying5
  a5 := Try.isAgg5
  z5 := Try.sizeOf5
  v5 := Try.zeroValue5
  t9 := Try.underlying9
  a9 := Try.isAgg9
  z9 := Try.sizeOf9
  v9 := Try.zeroValue9
  t22 := Try.underlying27
  a22 := Try.isAgg27
  z22 := Try.sizeOf27
  v22 := Try.zeroValue27
  t23 := Try.underlying3
  a23 := Try.isAgg3
  z23 := Try.sizeOf3
  v23 := Try.zeroValue3
  t44 := Try.underlying79
  a44 := Try.isAgg79
  z44 := Try.sizeOf79
  v44 := Try.zeroValue79
  t51 := Try.underlying65
  a51 := Try.isAgg65
  z51 := Try.sizeOf65
  v51 := Try.zeroValue65
  t60 := Try.underlying73
  a60 := Try.isAgg73
  z60 := Try.sizeOf73
  v60 := Try.zeroValue73
  t61 := Try.underlying74
  a61 := Try.isAgg74
  z61 := Try.sizeOf74
  v61 := Try.zeroValue74
  t67 := Try.underlying82
  a67 := Try.isAgg82
  z67 := Try.sizeOf82
  v67 := Try.zeroValue82
  t69 := Try.underlying84
  a69 := Try.isAgg84
  z69 := Try.sizeOf84
  v69 := Try.zeroValue84
  t75 := Try.underlying86
  a75 := Try.isAgg86
  z75 := Try.sizeOf86
  v75 := Try.zeroValue86
  t79 := Try.underlying90
  a79 := Try.isAgg90
  z79 := Try.sizeOf90
  v79 := Try.zeroValue90
  t83 := Try.underlying93
  a83 := Try.isAgg93
  z83 := Try.sizeOf93
  v83 := Try.zeroValue93
  t84 := Try.underlying94
  a84 := Try.isAgg94
  z84 := Try.sizeOf94
  v84 := Try.zeroValue94

end Go.Proofs
namespace Go.Proofs.Ytjlmlafiojpjmaa
open Go.RowKit Go.Shelf
set_option maxRecDepth 100000
set_option maxHeartbeats 4000000
theorem flat_inE (l : List Int) : l.flatMap inE = l.map (Value.int .i64) := by
  induction l with
  | nil => rfl
  | cons x r ih => rw [List.flatMap_cons, ih]; rfl
def sortL (zs : List Int) : List Int := zs.mergeSort fun x y => decide (x ≤ y)
theorem sortL_len (zs : List Int) : (sortL zs).length = zs.length := List.length_mergeSort zs
set_option maxRecDepth 100000 in
theorem sort_o (w : World) (base g cap : Nat) (zs : List Int) (h : OwnL inE 1 3 base w (.slice (some ⟨g, 0, none⟩) zs.length cap) zs) (hl : zs.length ≤ 400) :
    Calls Try.prog 16 #[.slice (some ⟨g, 0, none⟩) zs.length cap] w fun e w' => e = .returned (.tuple #[]) ∧ OwnL inE 1 3 base w' (.slice (some ⟨g, 0, none⟩) zs.length cap) (sortL zs) ∧ w.grownBy w' (some g) := by
  unfold OwnL at h
  rw [flat_inE] at h
  obtain ⟨g', cap', e1, hb, hlt, hn, hm, _, hH⟩ := Lib.holds_of_ownsRow h (by simp)
  injection e1 with e1 _ e3
  injection e1 with e1
  injection e1 with e1
  subst e1 e3
  have h2 := h.2
  rcases h2 with ⟨h0, _⟩ | ⟨g', cap', cur, e1, _, hg, hn', hm', hs, ht⟩
  · cases h0
  injection e1 with e1 _ e3
  injection e1 with e1
  injection e1 with e1
  subst e1 e3
  refine (AnyG.slices_Sort_int Try.laysSort g 0 cap zs w hH hlt (by omega)).mono ?_
  rintro e w' ⟨rfl, n, os, rfl⟩
  refine ⟨rfl, ?_, grownBy_sortedI _⟩
  unfold OwnL
  rw [flat_inE, sortL_len]
  exact ownsRow_sortedI (ss := zs) (ts := sortL zs) (sortL_len zs) hb hg hn' hm' hs
def cntH : List Int → Nat
  | [] => 0
  | y :: l => (if y = 3 then 1 else 0) + cntH l
theorem cntH_snoc : ∀ (l : List Int) (x : Int), cntH (l ++ [x]) = cntH l + (if x = 3 then 1 else 0)
  | [], x => by simp [cntH]
  | y :: l, x => by show (if y = 3 then 1 else 0) + cntH (l ++ [x]) = _; rw [cntH_snoc l x]; show _ = (if y = 3 then 1 else 0) + cntH l + _; omega
theorem cntH_len : ∀ (l : List Int), cntH l ≤ l.length
  | [] => by simp [cntH]
  | y :: l => by
    have := cntH_len l
    show (if y = 3 then 1 else 0) + cntH l ≤ l.length + 1
    split <;> omega
theorem equal_t (l : List Int) (v u : Value) (w : World) (hl : l.length ≤ 1000000) (hv : Lst w v (inC l)) (hu : Lst w u (inC l)) :
    Calls Try.prog 17 #[v, u] w fun e w' => e = .returned (.bool true) ∧ Below w.heap.size w w' := by
  obtain ⟨A, c, hfv, _⟩ := hv.form
  obtain ⟨B, d, hfu, _⟩ := hu.form
  rw [inC_len] at hfv hfu
  have HV := Lib.hid hv
  have HU := Lib.hid hu
  have HFV := Lib.hid hfv
  have HFU := Lib.hid hfu
  obtain ⟨n, hn⟩ : ∃ n, l.length = n := ⟨_, rfl⟩
  have HN := Lib.hid hn
  rw [hfv, hfu, hn]
  rw [hn] at hl
  clear hv hu hfv hfu hn
  go_enter Try.func17, Try.ntmps17
  go_wp2_with fail
  go_loopw [13] (InR w n) (fun i _ => n - (intOf i).toNat)
  case atStart => exact ⟨0, by omega, rfl, Below.refl _ _⟩
  case round =>
    obtain ⟨k, hk, rfl, hb⟩ := hrel
    have HB := Lib.hid hb
    clear hb
    by_cases hkl : k < n
    · obtain ⟨b1, o1, e1, h1, l1, c1⟩ := (HV.out.to HB.out).at_ (by rw [inC_len, HN.out]) (by rw [HFV.out, HN.out]) hkl
      obtain ⟨b2, o2, e2, h2, l2, c2⟩ := (HU.out.to HB.out).at_ (by rw [inC_len, HN.out]) (by rw [HFU.out, HN.out]) hkl
      obtain ⟨x, hx⟩ : ∃ x, l[k]? = some x := ⟨_, List.getElem?_eq_getElem (by rw [HN.out]; exact hkl)⟩
      have d1 := c1 _ (inC_at hx)
      have d2 := c2 _ (inC_at hx)
      subst e1 e2
      clear c1 c2 hx
      go_wp2_with fail
      go_quiet (fail)
      go_wp2
      go_roundw
      case rel => exact ⟨k + 1, hkl, by simp, HB.out.trans ((cur_drew _ _).mono HB.out.size)⟩
      case measure => simp [intOf]; omega
    · go_wp2_with fail
      go_ret
      exact ⟨rfl, HB.out⟩
def HuR (I : Inn) (w1 : World) (nv iv : Value) (wr : World) : Prop := ∃ k : Nat, k ≤ I.b.length ∧ iv = .int .i64 k ∧ nv = .int .i64 ((cntH (I.b.take k) : Nat) : Int) ∧ Below w1.heap.size w1 wr
theorem hurt_p (I : Inn) (V : Ls) (w : World) (hl : I.Few) (hV : InnR w V I) :
    Calls Try.prog 19 #[.agg (I.cells V).toArray] w fun e w' => e = .returned (.int .i64 ((cntH I.b : Nat) : Int)) ∧ Below w.heap.size w w' := by
  obtain ⟨A0, c0, hf, hc0⟩ := hV.b.form
  rw [stC_len] at hf hc0
  have hn : I.b.length ≤ 1000 := hl.b
  have HV := Lib.hid hV
  obtain ⟨w0, hw0⟩ : ∃ y, w.alloc (.cells (I.cells V).toArray 32) = y := ⟨_, rfl⟩
  have HB := Lib.hid (show Below w.heap.size w w0 by rw [← hw0]; exact cur_new _ _)
  have hi : Blk w0 w.heap.size 32 (I.cells V) := by rw [← hw0]; exact Blk.new _ _ _
  have c14 : w0.cell? ⟨w.heap.size, 14, none⟩ = some (.slice A0 I.b.length c0) := by rw [← hf]; exact hi.cell 14
  have S0 := Lib.hid hw0
  clear hl hV hf hw0 hi
  go_enter Try.func19, Try.ntmps19
  go_wp2_with (rw [S0.out])
  go_loopw [3, 9] (HuR I w0) (fun _ i _ => I.b.length - (intOf i).toNat)
  case atStart => exact ⟨0, by omega, rfl, rfl, Below.refl _ _⟩
  case round =>
    obtain ⟨k, hk, rfl, rfl, hb⟩ := hrel
    have HBR := Lib.hid hb
    clear hb
    by_cases hkl : k < I.b.length
    · obtain ⟨b, off, c1, hVb, hcc, hbl, hcell⟩ := HV.out.bat hkl
      rw [show V.b = .slice A0 I.b.length c0 by
        have h1 := S0.out
        have h2 : w0.cell? ⟨w.heap.size, 14, none⟩ = some V.b := by rw [← h1]; exact (Blk.new w 32 (I.cells V)).cell 14
        rw [c14] at h2
        injection h2 with h2
        exact h2.symm] at hVb
      injection hVb with h1 _ h3
      subst h1 h3
      obtain ⟨x, hx⟩ : ∃ x, bAt I k = x := ⟨_, rfl⟩
      rw [hx] at hcell
      have hxk : I.b[k]? = some x := by rw [← hx]; unfold bAt; rw [List.getD_eq_getElem?_getD, List.getElem?_eq_getElem hkl]; rfl
      have d1 : wr.cell? ⟨b, off + k, none⟩ = some (.int .u8 x) := ((HB.out.trans (HBR.out.mono HB.out.size)).cell (p := ⟨b, off + k, none⟩) hbl).trans hcell
      obtain ⟨m, hm⟩ : ∃ m, cntH (I.b.take k) = m := ⟨_, rfl⟩
      have hml : m ≤ 1000 := by rw [← hm]; have := cntH_len (I.b.take k); rw [List.length_take] at this; omega
      have HN := Lib.hid (show cntH (I.b.take (k + 1)) = m + (if x = 3 then 1 else 0) by rw [List.take_add_one, hxk]; show cntH (I.b.take k ++ [x]) = _; rw [cntH_snoc, hm])
      rw [hm]
      clear hcell hx hxk hm
      by_cases h3 : x = 3
      · subst h3
        have HN2 := Lib.hid (show cntH (I.b.take (k + 1)) = m + 1 by rw [HN.out]; rfl)
        go_wp2_with (fail)
        go_roundw
        case rel => exact ⟨k + 1, by omega, by simp, by rw [HN2.out]; simp, HBR.out⟩
        case measure => simp [intOf]; omega
      · have g3 : (x == 3) = false := by simpa using h3
        have HN2 := Lib.hid (show cntH (I.b.take (k + 1)) = m by rw [HN.out, if_neg h3]; rfl)
        clear h3
        go_wp2_with (fail)
        go_roundw
        case rel => exact ⟨k + 1, by omega, by simp, by rw [HN2.out], HBR.out⟩
        case measure => simp [intOf]; omega
    · have hkn : k = I.b.length := by omega
      have HE := Lib.hid (show cntH (I.b.take k) = cntH I.b by rw [hkn, List.take_length])
      clear hkn
      rw [HE.out]
      go_wp2_with (fail)
      go_ret
      exact ⟨rfl, HB.out.trans (HBR.out.mono HB.out.size)⟩
end Go.Proofs.Ytjlmlafiojpjmaa
