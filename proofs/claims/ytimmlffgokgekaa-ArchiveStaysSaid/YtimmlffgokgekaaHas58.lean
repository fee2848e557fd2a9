/-
  Chapter 58: has of the laws; slices.Contains at clashes, slices.Concat at entries.
-/
import Derived.Test.YtimmlffgokgekaaAwk58
import Derived.Test.YtimmlffgokgekaaAppL
set_option linter.unusedSimpArgs false
set_option linter.unusedVariables false
namespace Go.Proofs.Ytimmlffgokgekaa
open Go.RowKit
set_option maxRecDepth 100000
set_option maxHeartbeats 4000000
def HaR (l : List Ent) (i : Int) (w : World) (iv : Value) (wr : World) : Prop := ∃ k : Nat, k ≤ l.length ∧ iv = .int .i64 k ∧ (∀ j x, j < k → l[j]? = some x → x.id ≠ i) ∧ Below w.heap.size w wr ∧ Blk wr w.heap.size 39 (entE zEnt)
theorem fnd_atH {l : List Ent} {i : Int} {k : Nat} {x : Ent} (h : l[k]? = some x) (hn : ∀ j y, j < k → l[j]? = some y → y.id ≠ i) (hx : x.id = i) : fnd l i = some x := by
  induction l generalizing k with
  | nil => simp at h
  | cons y r ih =>
    unfold fnd
    rw [List.find?_cons]
    cases k with
    | zero => simp at h; subst h; simp [hx]
    | succ k =>
      have h0 := hn 0 y (by omega) rfl
      rw [show decide (y.id = i) = false from decide_eq_false h0]
      exact ih (k := k) (by simpa using h) (fun j z hj hz => hn (j + 1) z (by omega) (by simpa using hz))
theorem has_p (l : List Ent) (A0 : Option Addr) (c0 : Nat) (i : Int) (w : World) (hl : l.length ≤ 1000000) (hrd : Rd entE 21 w w.heap.size A0 l) :
    Calls Try.prog 22 #[.slice A0 l.length c0, .int .i64 i] w fun e' w' => e' = .returned (.tuple #[.agg (entE ((fnd l i).getD zEnt)).toArray, .bool (fnd l i).isSome]) ∧ Below w.heap.size w w' := by
  have HRD := Lib.hid hrd
  have HZ0 := Lib.hid (show Blk (w.alloc (.cells (entE zEnt).toArray 39)) w.heap.size 39 (entE zEnt) from Blk.new w _ _)
  clear hrd
  go_enter Try.func22, Try.ntmps22
  go_wp2_with (fail)
  go_loopw [10] (HaR l i w) (fun iv _ => l.length - (intOf iv).toNat)
  case atStart => exact ⟨0, by omega, rfl, fun j x hj => by omega, cur_new _ _, HZ0.out⟩
  case round =>
    obtain ⟨k, hk, rfl, hno, hb, hz⟩ := hrel
    have HNO := Lib.hid hno
    have HB := Lib.hid hb
    have HZ := Lib.hid hz
    clear hno hb hz HZ0
    by_cases hkl : k < l.length
    · obtain ⟨x, hx⟩ : ∃ x, l[k]? = some x := ⟨_, List.getElem?_eq_getElem hkl⟩
      obtain ⟨b2, off2, rfl, hb2l, hc2⟩ := rd_at HRD.out HB.out hx
      have HRA := Lib.hid hc2
      have HX := Lib.hid hx
      clear hc2 hx
      obtain ⟨W6, hW6⟩ : ∃ y, wr.alloc (.cells (entE x).toArray 39) = y := ⟨_, rfl⟩
      have HB6 := Lib.hid (show Below wr.heap.size wr W6 by rw [← hW6]; exact cur_new _ _)
      have HX6 := Lib.hid (show Blk W6 wr.heap.size 39 (entE x) by rw [← hW6]; exact Blk.new wr _ _)
      have HZ6 := Lib.hid (HZ.out.to HB6.out)
      have S6 := Lib.hid hW6
      have e0 : W6.cell? ⟨wr.heap.size, 0, none⟩ = some (.int .i64 x.id) := by rw [HX6.out.cell]; rfl
      clear hW6
      by_cases he : x.id = i
      · have gi : (x.id == i) = true := by simpa using he
        have HF := Lib.hid (fnd_atH HX.out HNO.out he)
        clear he
        go_upto_region 5 with (first | (refine wpList_load_mid rfl 39 _ rfl b2 (off2 + k * 21) (by rfl) (entE x) _ HRA.out (by rfl) (by rfl) ent_info ?_) | (refine wpList_storeNew rfl _ _ 39 rfl _ (entE x).toArray ent_info (by rfl) (by rfl) rfl (ent_one _) ?_; rw [S6.out]))
        refine wp_region_lit ?_
        refine wpList_loadC rfl _ 39 rfl wr.heap.size 39 (entE x) _ rfl (by rfl) (by rfl) (by rfl) HX6.out ?_
        refine wpList_storeC rfl _ _ 39 rfl w.heap.size 39 (entE zEnt) (entE x).toArray ent_info (by rfl) (by rfl) HZ6.out (by rfl) (ent_one _) ?_
        have HZ7 := Lib.hid (blk_row HZ6.out (entE x).toArray)
        have HB7 := Lib.hid (row_below (cur_step1 HB.out HB6.out) (Nat.le_refl _) (entE x).toArray)
        generalize W6.setRow w.heap.size (entE x).toArray = W7 at HZ7 HB7 ⊢
        go_wp2_with (fail)
        refine ret_cell2 (g := w.heap.size) (xs := entE x) rfl rfl rfl HZ7.out Try.underlying39 rfl ent_info rfl ?_
        rw [HF.out]
        exact ⟨rfl, HB7.out⟩
      · have gi : (x.id == i) = false := by simpa using he
        have HN2 := Lib.hid (show ∀ j y, j < k + 1 → l[j]? = some y → y.id ≠ i from fun j y hj hy => by
          by_cases e : j = k
          · subst e; rw [HX.out] at hy; injection hy with hy; subst hy; exact he
          · exact HNO.out j y (by omega) hy)
        clear he
        go_wp2_with (first | (refine wpList_load_mid rfl 39 _ rfl b2 (off2 + k * 21) (by rfl) (entE x) _ HRA.out (by rfl) (by rfl) ent_info ?_) | (refine wpList_storeNew rfl _ _ 39 rfl _ (entE x).toArray ent_info (by rfl) (by rfl) rfl (ent_one _) ?_; rw [S6.out]))
        exact ⟨⟨k + 1, hkl, rfl, HN2.out, cur_step1 HB.out HB6.out, HZ6.out⟩, by show l.length - (k + 1) < l.length - k; omega⟩
    · have HF := Lib.hid (show fnd l i = none from fnd_none.2 fun x hx => by
        obtain ⟨j, hj⟩ := List.getElem?_of_mem hx
        exact HNO.out j x (by have := (List.getElem?_eq_some_iff.1 hj).1; omega) hj)
      go_upto_region 7 with (fail)
      refine wp_region_lit ?_
      refine wpList_buildTo rfl _ _ rfl _ rfl (entE zEnt).toArray (by kernel_rfl) ?_
      refine wpList_storeC rfl _ _ 39 rfl w.heap.size 39 (entE zEnt) (entE zEnt).toArray ent_info (by rfl) (by rfl) HZ.out (by rfl) (ent_one _) ?_
      have HZ7 := Lib.hid (blk_row HZ.out (entE zEnt).toArray)
      have HB7 := Lib.hid (row_below HB.out (Nat.le_refl _) (entE zEnt).toArray)
      generalize wr.setRow w.heap.size (entE zEnt).toArray = W7 at HZ7 HB7 ⊢
      go_wp2_with (fail)
      refine ret_cell2 (g := w.heap.size) (xs := entE zEnt) rfl rfl rfl HZ7.out Try.underlying39 rfl ent_info rfl ?_
      rw [HF.out]
      exact ⟨rfl, HB7.out⟩
def IxR (l : List Int) (i : Int) (w : World) (iv : Value) (wr : World) : Prop := ∃ k : Nat, k ≤ l.length ∧ iv = .int .i64 k ∧ (∀ j x, j < k → l[j]? = some x → x ≠ i) ∧ Below (w.heap.size + 1) (w.alloc (.cells (inE i).toArray 42)) wr
theorem index_p (l : List Int) (A0 : Option Addr) (c0 : Nat) (i : Int) (w : World) (hl : l.length ≤ 1000000) (hrd : Rd inE 1 w w.heap.size A0 l) :
    Calls Try.prog 48 #[.slice A0 l.length c0, .agg #[.int .i64 i]] w fun e' w' => (∃ n : Int, e' = .returned (.int .i64 n) ∧ decide (0 ≤ n) = decide (i ∈ l)) ∧ Below w.heap.size w w' := by
  have HRD := Lib.hid hrd
  have HBN := Lib.hid (cur_new w (.cells (inE i).toArray 42))
  have HC0 := Lib.hid (Blk.new w 42 (inE i))
  clear hrd
  go_enter Try.func48, Try.ntmps48
  go_wp2_with (fail)
  go_loopw [8] (IxR l i w) (fun iv _ => l.length - (intOf iv).toNat)
  case atStart => exact ⟨0, by omega, rfl, fun j x hj => by omega, Below.refl _ _⟩
  case round =>
    obtain ⟨k, hk, rfl, hno, hb⟩ := hrel
    have HNO := Lib.hid hno
    have HB := Lib.hid (cur_step1 HBN.out (by have := hb; simpa using this))
    have p0 : wr.cell? ⟨w.heap.size, 0, none⟩ = some (.int .i64 i) := (hb.cell (p := ⟨w.heap.size, 0, none⟩) (by simp)).trans (HC0.out.cell 0)
    have HBX := Lib.hid hb
    clear hno hb
    by_cases hkl : k < l.length
    · obtain ⟨x, hx⟩ : ∃ x, l[k]? = some x := ⟨_, List.getElem?_eq_getElem hkl⟩
      obtain ⟨b2, o2, rfl, hb2l, hc2⟩ := rd_at HRD.out HB.out hx
      have HX := Lib.hid hx
      have q0 : wr.cell? ⟨b2, o2 + k, none⟩ = some (.int .i64 x) := by have := hc2 0 _ rfl; simpa using this
      have l2 : b2 < wr.heap.size := by have := HB.out.size; omega
      have hg := guard_cl
      clear hc2 hx
      by_cases he : i = x
      · have kn : ∀ w : World, (binOp .eql 42 (.agg (inE i).toArray) (.agg (inE x).toArray)).run Try.prog w = .ok (.bool true) w := fun w => by rw [cl_eql]; simp [he]
        have HM := Lib.hid (show i ∈ l from by rw [he]; exact List.mem_of_getElem? HX.out)
        clear he
        try simp only [inE] at kn
        go_wp2_with (fail)
        go_quiet (fail)
        go_wp2_with (fail)
        go_ret
        exact ⟨⟨k, rfl, by rw [decide_eq_true HM.out]; simp⟩, below_drewN HB.out _⟩
      · have kn : ∀ w : World, (binOp .eql 42 (.agg (inE i).toArray) (.agg (inE x).toArray)).run Try.prog w = .ok (.bool false) w := fun w => by rw [cl_eql]; simp [he]
        have HN2 := Lib.hid (show ∀ j y, j < k + 1 → l[j]? = some y → y ≠ i from fun j y hj hy => by
          by_cases e : j = k
          · subst e; rw [HX.out] at hy; injection hy with hy; subst hy; exact fun h => he h.symm
          · exact HNO.out j y (by omega) hy)
        clear he
        try simp only [inE] at kn
        go_wp2_with (fail)
        go_quiet (fail)
        go_wp2
        go_roundw
        case rel => exact ⟨k + 1, hkl, by simp, HN2.out, below_drewN HBX.out _⟩
        case measure => simp [intOf]; omega
    · have HM := Lib.hid (show ¬ i ∈ l from fun hm => by
        obtain ⟨j, hj⟩ := List.getElem?_of_mem hm
        exact HNO.out j i (by have := (List.getElem?_eq_some_iff.1 hj).1; omega) hj rfl)
      go_wp2_with (fail)
      go_ret
      exact ⟨⟨-1, rfl, by rw [decide_eq_false HM.out]; decide⟩, HB.out⟩
theorem contains_p (l : List Int) (A0 : Option Addr) (c0 : Nat) (i : Int) (w : World) (hl : l.length ≤ 1000000) (hrd : Rd inE 1 w w.heap.size A0 l) :
    Calls Try.prog 23 #[.slice A0 l.length c0, .agg #[.int .i64 i]] w fun e' w' => e' = .returned (.bool (decide (i ∈ l))) ∧ Below w.heap.size w w' := by
  have HRD := Lib.hid hrd
  have hbn := cur_new w (.cells #[.int .i64 i] 42)
  have HBN := Lib.hid hbn
  clear hrd hbn
  go_enter Try.func23, Try.ntmps23
  go_wp2_with (fail)
  refine (index_p l A0 c0 i _ hl (HRD.out.to HBN.out)).mono ?_
  rintro e w2 ⟨⟨n, rfl, hn⟩, hb2⟩
  have HB2 := Lib.hid (cur_step1 HBN.out hb2)
  have HN := Lib.hid hn
  clear hb2 hn
  go_wp2_with (fail)
  go_ret
  exact ⟨by rw [← HN.out]; rfl, HB2.out⟩
theorem grow_f (n : Nat) (w : World) (h1 : 1 ≤ n) (hn : n ≤ 100000) :
    Calls Try.prog 47 #[.slice none 0 0, .int .i64 n] w fun e w' => ∃ g cap, e = .returned (.slice (some ⟨g, 0, none⟩) 0 cap) ∧ OwnL entE 21 39 w.heap.size w' (.slice (some ⟨g, 0, none⟩) ([] : List Ent).length cap) [] ∧ Below w.heap.size w w' := by
  obtain ⟨i, hi, h0, hs, hb⟩ := info_parts Try.infoEnt
  have hrz : ∀ ty, (Builtin.append_ #[22, 3] ty #[.slice none 0 0, .int .i64 (n : Int)]).run Try.prog w = _ := fun ty =>
    Lib.run_append_nil_zeros w 22 3 ty 39 i _ .i64 .i64 Try.underlying22 Try.underlying3 hi h0 n (by omega) (by rw [hs]; decide) (by omega) (by rw [hb]; omega)
  have hG := grownCap_ge w n 0 39
  have hG2 := grownCap_le_maxLen w n 0 39 (by unfold maxLen; omega)
  obtain ⟨G, hGe⟩ : ∃ G, G = grownCap w n 0 39 := ⟨_, rfl⟩
  rw [← hGe] at hG hG2
  simp only [← hGe] at hrz
  have hp : (0 : Int) < (n : Int) := by omega
  clear hGe
  go_enter Try.func47, Try.ntmps47
  go_wp2_with (at_builtin; refine Lib.wpList_append_run _ rfl _ _ _ _ rfl _ _ rfl rfl _ _ (hrz _) ?_)
  go_ret
  refine ⟨w.heap.size, G, rfl, ⟨rfl, .inr ⟨w.heap.size, G, _, rfl, Nat.le_refl _, heap_alloc_new w _, by simp, hG2, ?_, by simp⟩⟩, (cur_new w _).drew⟩
  simp [size_zeroCells]
  rw [entE_len]
  omega
def sliceAt (w : World) (s : Nat) (ls : List (List Ent)) : Prop := ∀ k l, ls[k]? = some l → ∃ A c, w.cell? ⟨s, k, none⟩ = some (.slice A l.length c) ∧ Rd entE 21 w w.heap.size A l
theorem sliceAt.to {w w' : World} {s : Nat} {ls : List (List Ent)} (h : sliceAt w s ls) (hs : s < w.heap.size) (hb : Below w.heap.size w w') : sliceAt w' s ls := by
  intro k l hk
  obtain ⟨A, c, h1, h2⟩ := h k l hk
  exact ⟨A, c, (hb.cell (p := ⟨s, k, none⟩) hs).trans h1, h2.to hb⟩
def fl (ls : List (List Ent)) (k : Nat) : List Ent := (ls.take k).flatten
theorem fl_step {ls : List (List Ent)} {k : Nat} {l : List Ent} (h : ls[k]? = some l) : fl ls (k + 1) = fl ls k ++ l := by
  unfold fl
  rw [List.take_add_one, h]
  simp
theorem fl_le (ls : List (List Ent)) (k : Nat) : (fl ls k).length ≤ ls.flatten.length := by
  unfold fl
  conv => rhs; rw [← List.take_append_drop k ls, List.flatten_append, List.length_append]
  omega
def Cc1 (w : World) (ls : List (List Ent)) (z i : Value) (wr : World) : Prop := ∃ (k : Nat) (n : Nat), k ≤ ls.length ∧ i = .int .i64 k ∧ z = .int .i64 n ∧ n = (fl ls k).length ∧ Below w.heap.size w wr
def Cc2 (w : World) (B : Nat) (ls : List (List Ent)) (o i : Value) (wr : World) : Prop := ∃ (k : Nat) (L : List Ent) (g c : Nat), k ≤ ls.length ∧ i = .int .i64 k ∧ L = fl ls k ∧ o = .slice (some ⟨g, 0, none⟩) L.length c ∧ OwnL entE 21 39 B wr (.slice (some ⟨g, 0, none⟩) L.length c) L ∧ Below w.heap.size w wr
theorem concat_f (s : Nat) (ls : List (List Ent)) (n : Nat) (w : World) (hn : ls.length = n) (hn3 : n ≤ 100) (hs : s < w.heap.size) (hl1 : 1 ≤ ls.flatten.length) (hl : ls.flatten.length ≤ 10000) (hat : sliceAt w s ls) :
    Calls Try.prog 21 #[.slice (some ⟨s, 0, none⟩) n n] w fun e w' => ∃ g c, e = .returned (.slice (some ⟨g, 0, none⟩) ls.flatten.length c) ∧ OwnL entE 21 39 w.heap.size w' (.slice (some ⟨g, 0, none⟩) ls.flatten.length c) ls.flatten ∧ Below w.heap.size w w' := by
  have HAT := Lib.hid hat
  have HN := Lib.hid hn
  have hlen := Lib.hid (fun k => fl_le ls k)
  clear hat hn
  go_enter Try.func21, Try.ntmps21
  go_wp2_with (fail)
  go_loopw [3, 11] (Cc1 w ls) (fun _ i _ => n - (intOf i).toNat)
  case atStart => exact ⟨0, 0, by omega, rfl, rfl, rfl, Below.refl _ _⟩
  case round =>
    obtain ⟨k, m, hk, rfl, rfl, hm, hB⟩ := hrel
    have HM := Lib.hid hm
    have HB := Lib.hid hB
    have hm2 : m ≤ 10000 := by rw [hm]; exact Nat.le_trans (hlen.out k) hl
    have hsl : s < wr.heap.size := by have := hB.size; omega
    clear hm hB
    by_cases hlt : k < n
    · obtain ⟨l, hl3⟩ : ∃ l, ls[k]? = some l := ⟨_, List.getElem?_eq_getElem (by have := HN.out; omega)⟩
      obtain ⟨A, c, c0, hr⟩ := (HAT.out.to hs HB.out) k l hl3
      have HF := Lib.hid (show m + l.length = (fl ls (k + 1)).length by rw [fl_step hl3, List.length_append, ← HM.out])
      have hm3 : m + l.length ≤ 10000 := by rw [HF.out]; exact Nat.le_trans (hlen.out _) hl
      clear hl3 hr
      go_wp2_with (fail)
      go_roundw
      case rel => exact ⟨k + 1, m + l.length, by have := HN.out; omega, by simp, by simp, HF.out, HB.out⟩
      case measure => simp [intOf]; omega
    · have hkn : ls.length ≤ k := by have := HN.out; omega
      have HT := Lib.hid (show m = ls.flatten.length by rw [HM.out]; unfold fl; rw [List.take_of_length_le hkn])
      have hm1 : 1 ≤ m := by rw [HT.out]; exact hl1
      go_wp2_with (go_at_call 47; refine (grow_f m _ hm1 (by omega)).mono ?_; rintro e w4 ⟨g, cap, rfl, hown, hb4⟩; have HO := Lib.hid hown; have HB4 := Lib.hid (cur_step1 HB.out hb4); have hBB := hb4.size; clear hown hb4)
      obtain ⟨B, hBe⟩ : ∃ B, B = wr.heap.size := ⟨_, rfl⟩
      have hBw : w.heap.size ≤ B := by rw [hBe]; exact HB.out.size
      rw [← hBe] at HO hBB
      have HBQ := Lib.hid hBB
      clear hBe HB hsl hm1 hBB
      go_loopw [6, 27] (Cc2 w B ls) (fun _ i _ => n - (intOf i).toNat)
      case atStart => exact ⟨0, [], g, cap, by omega, rfl, rfl, rfl, HO.out, HB4.out⟩
      case round =>
        clear HO HB4 HBQ
        obtain ⟨q, L, g2, c2, hq, rfl, hL, rfl, hown, hB⟩ := hrel
        have HL := Lib.hid hL
        have HO := Lib.hid hown
        have HB := Lib.hid hB
        have hL2 : L.length ≤ 10000 := by rw [hL]; exact Nat.le_trans (hlen.out q) hl
        have hsl : s < wr.heap.size := by have := hB.size; omega
        have hgr := own_range hown g2 rfl
        clear hL hown hB
        by_cases hlt2 : q < n
        · obtain ⟨l, hl3⟩ : ∃ l, ls[q]? = some l := ⟨_, List.getElem?_eq_getElem (by have := HN.out; omega)⟩
          obtain ⟨A, c, c0, hr⟩ := (HAT.out.to hs HB.out) q l hl3
          have HF := Lib.hid (show L ++ l = fl ls (q + 1) by rw [fl_step hl3, ← HL.out])
          have hm3 : L.length + l.length ≤ 10000 := by rw [← List.length_append, HF.out]; exact Nat.le_trans (hlen.out _) hl
          have HR := Lib.hid hr
          clear hl3 hr
          go_wp2_with (at_builtin; refine wpList_appL Try.enElem _ rfl (.tmp 31) (.tmp 32) rfl B g2 c2 L rfl HO.out A c l rfl HR.out ?o1 ?o2 ?o3 ?_)
          case o1 => unfold maxLen; omega
          case o2 => omega
          case o3 => omega
          intro g3 cap3 w6 ho6 hg6 _
          have HO6 := Lib.hid ho6
          have HB6 := Lib.hid (HB.out.grown hg6 HB.out.size (by intro b hb; injection hb with hb; omega))
          clear ho6 hg6
          go_wp2_with (fail)
          go_roundw
          case rel => exact ⟨q + 1, L ++ l, g3, cap3, by have := HN.out; omega, by simp, HF.out, by simp, by rw [List.length_append]; exact HO6.out, HB6.out⟩
          case measure => simp [intOf]; omega
        · have hkn2 : ls.length ≤ q := by have := HN.out; omega
          have hLf : L = ls.flatten := by rw [HL.out]; unfold fl; rw [List.take_of_length_le hkn2]
          have HLF := Lib.hid hLf
          clear hLf
          go_wp2_with (fail)
          go_ret
          rw [← HLF.out]
          exact ⟨g2, c2, rfl, own_mono HO.out hBw, HB.out⟩
theorem run_append_nn {P : Program} {w : World} {t ty e : TypeId} {i : TypeInfo} (ht : P.underlying t = some (.slice e)) (hi : P.info? e = some i) (A : Option Addr) (c2 : Nat) :
    (Builtin.append_ #[t, t] ty #[.slice none 0 0, .slice A 0 c2]).run P w = .ok (.slice none 0 0) w := by
  cases A <;> simp [Builtin.append_, run_underlying ht, sizeOf, typeInfo, hi, Builtin.lenOf, Builtin.firstCells, storeCells, Result.andThen, loadCells, loadCellsFrom]
theorem grow_z (w : World) :
    Calls Try.prog 47 #[.slice none 0 0, .int .i64 0] w fun e w' => e = .returned (.slice none 0 0) ∧ Below w.heap.size w w' := by
  go_enter Try.func47, Try.ntmps47
  go_wp2_with (fail)
  go_ret
  exact ⟨rfl, Below.refl _ _⟩
def Cz2 (w : World) (ls : List (List Ent)) (o i : Value) (wr : World) : Prop := ∃ (k : Nat), k ≤ ls.length ∧ i = .int .i64 k ∧ o = .slice none 0 0 ∧ Below w.heap.size w wr
theorem concat_z (s : Nat) (ls : List (List Ent)) (n : Nat) (w : World) (hn : ls.length = n) (hn3 : n ≤ 100) (hs : s < w.heap.size) (hl : ls.flatten.length = 0) (hat : sliceAt w s ls) :
    Calls Try.prog 21 #[.slice (some ⟨s, 0, none⟩) n n] w fun e w' => e = .returned (.slice none 0 0) ∧ Below w.heap.size w w' := by
  obtain ⟨it, hit, _, _, _⟩ := info_parts Try.infoEnt
  have HAT := Lib.hid hat
  have HN := Lib.hid hn
  have hlen := Lib.hid (show ∀ (k : Nat) (l : List Ent), ls[k]? = some l → l.length = 0 from fun k l hk => by
    have h1 : l ⊆ ls.flatten := fun x hx => List.mem_flatten.2 ⟨l, List.mem_of_getElem? hk, hx⟩
    rw [List.eq_nil_of_length_eq_zero hl] at h1
    rw [List.eq_nil_of_subset_nil h1]; rfl)
  have HRN := Lib.hid (fun (W : World) (ty : TypeId) (A : Option Addr) (c2 : Nat) => run_append_nn (P := Try.prog) (w := W) (ty := ty) Try.underlying22 hit A c2)
  clear hat hn hl hit
  go_enter Try.func21, Try.ntmps21
  go_wp2_with (fail)
  go_loopw [3, 11] (fun z i wr => ∃ k : Nat, k ≤ ls.length ∧ i = .int .i64 k ∧ z = .int .i64 0 ∧ Below w.heap.size w wr) (fun _ i _ => n - (intOf i).toNat)
  case atStart => exact ⟨0, by omega, rfl, rfl, Below.refl _ _⟩
  case round =>
    obtain ⟨k, hk, rfl, rfl, hB⟩ := hrel
    have HB := Lib.hid hB
    have hsl : s < wr.heap.size := by have := hB.size; omega
    clear hB
    by_cases hlt : k < n
    · obtain ⟨l, hl3⟩ : ∃ l, ls[k]? = some l := ⟨_, List.getElem?_eq_getElem (by have := HN.out; omega)⟩
      obtain ⟨A, c, c0, _⟩ := (HAT.out.to hs HB.out) k l hl3
      rw [hlen.out k l hl3] at c0
      clear hl3
      go_wp2_with (fail)
      exact ⟨⟨k + 1, by have := HN.out; omega, rfl, rfl, HB.out⟩, by show n - (k + 1) < n - k; omega⟩
    · go_wp2_with (fail)
      refine (grow_z wr).mono ?_
      rintro e w4 ⟨rfl, hb4⟩
      have HB4 := Lib.hid (cur_step1 HB.out hb4)
      have hs4 : s < w4.heap.size := by have := hb4.size; omega
      clear hb4
      go_wp2_with (fail)
      go_loopw [6, 27] (Cz2 w ls) (fun _ i _ => n - (intOf i).toNat)
      case atStart => exact ⟨0, by omega, rfl, rfl, HB4.out⟩
      case round =>
        clear HB4 hs4
        obtain ⟨q, hq, rfl, rfl, hB⟩ := hrel
        have HB := Lib.hid hB
        have hsl : s < wr.heap.size := by have := hB.size; omega
        clear hB
        by_cases hlt2 : q < n
        · obtain ⟨l, hl3⟩ : ∃ l, ls[q]? = some l := ⟨_, List.getElem?_eq_getElem (by have := HN.out; omega)⟩
          obtain ⟨A, c, c0, _⟩ := (HAT.out.to hs HB.out) q l hl3
          rw [hlen.out q l hl3] at c0
          clear hl3
          go_wp2_with (at_builtin; refine Lib.wpList_append_run _ rfl _ _ _ _ rfl _ _ rfl rfl _ _ (HRN.out _ _ A c) ?_)
          exact ⟨⟨q + 1, by have := HN.out; omega, rfl, rfl, HB.out⟩, by show n - (q + 1) < n - q; omega⟩
        · go_wp2_with (fail)
          go_ret
          exact ⟨rfl, HB.out⟩
end Go.Proofs.Ytimmlffgokgekaa
