/-
  Chapter 55: the reference's on, subset, busy and worst.
-/
import Derived.Test.YtckbhdokfkabfaaPlQ55
import Derived.Test.YtckbhdokfkabfaaAbl55
import Derived.Lib.RabinKarpLaws
set_option linter.unusedSimpArgs false
set_option linter.unusedVariables false
namespace Go.Proofs.Ytckbhdokfkabfaa
open Go.RowKit
set_option maxRecDepth 100000
set_option maxHeartbeats 8000000
def nI (l : List Nat) : List Int := l.map fun i : Nat => (i : Int)
theorem nI_len (l : List Nat) : (nI l).length = l.length := by unfold nI; rw [List.length_map]
theorem nI_app (l : List Nat) (i : Nat) : nI (l ++ [i]) = nI l ++ [(i : Int)] := by unfold nI; rw [List.map_append]; rfl
theorem nI_at {l : List Nat} {k i : Nat} (h : l[k]? = some i) : (nI l)[k]? = some (i : Int) := by unfold nI; rw [List.getElem?_map, h]; rfl
def isD (M : List Dty) (d : Int) (i : Nat) : Bool := match M[i]? with
  | some x => decide (x.d = d)
  | none => false
def onK (M : List Dty) (d : Int) (k : Nat) : List Nat := (List.range k).filter (isD M d)
theorem onK_yes {M : List Dty} {d : Int} {k : Nat} {x : Dty} (h : M[k]? = some x) (hd : x.d = d) : onK M d (k + 1) = onK M d k ++ [k] := by
  unfold onK
  rw [List.range_succ, List.filter_append]
  simp [isD, h, hd]
theorem onK_no {M : List Dty} {d : Int} {k : Nat} {x : Dty} (h : M[k]? = some x) (hd : ¬ x.d = d) : onK M d (k + 1) = onK M d k := by
  unfold onK
  rw [List.range_succ, List.filter_append]
  simp [isD, h, hd]
theorem onK_len (M : List Dty) (d : Int) (k : Nat) : (onK M d k).length ≤ k := by
  unfold onK
  exact Nat.le_trans (List.length_filter_le _ _) (by simp)
def onI (M : List Dty) (d : Int) : List Nat := onK M d M.length
def subK (l : List Nat) (m k : Nat) : List Nat := ((List.range k).filter fun j => m.testBit j).map fun j => l[j]?.getD 0
theorem subK_yes {l : List Nat} {m k i : Nat} (h : l[k]? = some i) (hb : m.testBit k = true) : subK l m (k + 1) = subK l m k ++ [i] := by
  unfold subK
  rw [List.range_succ, List.filter_append]
  simp [h, hb]
theorem subK_no {l : List Nat} {m k : Nat} (hb : m.testBit k = false) : subK l m (k + 1) = subK l m k := by
  unfold subK
  rw [List.range_succ, List.filter_append]
  simp [hb]
theorem subK_len (l : List Nat) (m k : Nat) : (subK l m k).length ≤ k := by
  unfold subK
  rw [List.length_map]
  exact Nat.le_trans (List.length_filter_le _ _) (by simp)
def subI (l : List Nat) (m : Nat) : List Nat := subK l m l.length
theorem own_nilI' {w : World} : OwnL iE 1 3 w.heap.size (w.alloc (.cells #[] 3)) (.slice (some ⟨w.heap.size, 0, none⟩) ([] : List Int).length 0) [] := World.ownsRow_made w #[] 0 (Nat.le_refl _) (Nat.zero_le _) (by simp)
theorem on_r (A : Option Addr) (c : Nat) (M : List Dty) (d : Int) (w : World) (hl : M.length ≤ 1000) (h : Rd dtE 4 w w.heap.size A M) :
    Calls Try.prog 37 #[.slice A M.length c, .int .i64 d] w fun e w' => (∃ A9 c9, e = .returned (.slice A9 (onI M d).length c9) ∧ Rd iE 1 w' w'.heap.size A9 (nI (onI M d))) ∧ Below w.heap.size w w' := by
  have HT := Lib.hid h
  clear h
  go_enter Try.func37, Try.ntmps37
  go_wp2_with fail
  have HO0 := Lib.hid (own_nilI' (w := w))
  have h2 := cur_new w (.cells #[] 3)
  generalize w.alloc (.cells #[] 3) = w2 at HO0 h2 ⊢
  have HB2 := Lib.hid h2
  clear h2
  go_loopw [5, 11] (fun v iv wr => ∃ (k : Nat) (A9 : Option Addr) (c9 : Nat), k ≤ M.length ∧ v = .slice A9 (nI (onK M d k)).length c9 ∧ iv = .int .i64 k ∧ OwnL iE 1 3 w.heap.size wr (.slice A9 (nI (onK M d k)).length c9) (nI (onK M d k)) ∧ Below w.heap.size w wr) (fun _ i _ => M.length - (intOf i).toNat)
  case atStart => exact ⟨0, some ⟨w.heap.size, 0, none⟩, 0, by omega, rfl, rfl, HO0.out, HB2.out⟩
  case round =>
    clear HO0 HB2
    obtain ⟨k, A9, c9, hk, rfl, rfl, ho, hb⟩ := hrel
    rename World => wp
    have HO := Lib.hid ho
    have HB := Lib.hid hb
    clear ho hb
    by_cases hkl : k < M.length
    · obtain ⟨x, hx⟩ : ∃ x, M[k]? = some x := ⟨_, List.getElem?_eq_getElem hkl⟩
      obtain ⟨b5, off5, hA, hb5, hcl5⟩ := HT.out.at_ HB.out hx
      have HYES := Lib.hid (fun hd => onK_yes (d := d) hx hd)
      have HNO := Lib.hid (fun hd => onK_no (d := d) hx hd)
      obtain ⟨q0, q1, q2, q3⟩ := dt_cells hcl5
      have l5 : b5 < wp.heap.size := Nat.lt_of_lt_of_le hb5 HB.out.size
      obtain ⟨xm, xd, xh, xa⟩ := x
      dsimp only at q0 q1 q2 q3 HYES HNO
      obtain ⟨S, hS⟩ : ∃ S, onK M d k = S := ⟨_, rfl⟩
      have hSl : S.length ≤ k := by rw [← hS]; exact onK_len _ _ _
      rw [hS] at HO HYES HNO ⊢
      have HAE := Lib.hid hA
      rw [hA]
      clear hx hcl5 hA hb5 hS
      go_upto_region 5 with (fail)
      have h4 := cur_new wp (.cells #[.int .i64 xm, .int .i64 xd, .string xh, .string xa] 29)
      have k4 := Blk.new wp 29 [.int .i64 xm, .int .i64 xd, .string xh, .string xa]
      generalize wp.alloc (.cells #[.int .i64 xm, .int .i64 xd, .string xh, .string xa] 29) = w3 at h4 k4 ⊢
      obtain ⟨g4, hg4⟩ : ∃ g, wp.heap.size = g := ⟨_, rfl⟩
      rw [hg4] at k4 ⊢
      have HB3 := Lib.hid (cur_step1 HB.out h4)
      have HO3 := Lib.hid (own_below HO.out h4 (Nat.le_refl _))
      have a1 : w3.cell? ⟨g4, 1, none⟩ = some (.int .i64 xd) := k4.cell 1
      have l4 := k4.lt
      clear h4 k4 hg4 q0 q1 q2 q3
      by_cases hd : xd = d
      · have hde : (xd == d) = true := by simpa using hd
        have HNX := Lib.hid (HYES.out hd)
        clear HYES HNO
        go_upto_region 6 with (fail)
        obtain ⟨w4, hw4⟩ : ∃ W, w3.alloc (.cells (iE (k : Int)).toArray 3) = W := ⟨_, rfl⟩
        have HB4 := Lib.hid (show Below w3.heap.size w3 w4 by rw [← hw4]; exact cur_new _ _)
        have HE4 := Lib.hid (show w4.heap[w3.heap.size]? = some (.cells (iE (k : Int)).toArray 3 (0, 0)) by rw [← hw4]; exact heap_alloc_new _ _)
        have HBW := Lib.hid (show w.heap.size ≤ w4.heap.size from Nat.le_trans HB3.out.size HB4.out.size)
        have S4 := Lib.hid hw4
        have HNL := Lib.hid (nI_len S)
        clear hw4
        go_upto_region 7 with (at_builtin; change wpList _ _ _ _ _ (w3.alloc (.cells (iE (k : Int)).toArray 3)); rw [S4.out]; refine wpList_app1 Try.iElem w4 rfl (.tmp 20) (.tmp 22) rfl w.heap.size A9 c9 (nI S) (by rfl) (own_below HO3.out HB4.out (Nat.le_refl _)) (k : Int) w3.heap.size 1 (by rfl) HE4.out (by have := HNL.out; unfold maxLen; omega) (by have := HNL.out; omega) HBW.out ?_; intro g9 cap9 w9 ha; have HA9 := Lib.hid ha; clear ha)
        have HFA := Lib.hid (show Far (adB A9) w4 w9 from Far.grown HA9.out.grown (fun b hb => adB_own hb))
        have HB9 := Lib.hid (show Below w.heap.size w w9 from (cur_step1 HB3.out HB4.out).trans (HFA.out.below HBW.out (fun y hy => (own_in HO3.out y hy).1)))
        have HO9 := Lib.hid (show OwnL iE 1 3 w.heap.size w9 (.slice (some ⟨g9, 0, none⟩) ((nI S).length + 1) cap9) (nI S ++ [(k : Int)]) from HA9.out.one rfl)
        clear HA9 HFA HE4 S4
        go_wp2_with fail
        first
        | (go_roundw
           case rel => exact ⟨k + 1, some ⟨g9, 0, none⟩, cap9, by omega, by rw [HNX.out, nI_app, List.length_append]; rfl, by simp, by rw [HNX.out, nI_app, List.length_append]; exact HO9.out, HB9.out⟩
           case measure => simp [intOf]; omega)
        | exact ⟨⟨k + 1, some ⟨g9, 0, none⟩, cap9, by omega, by rw [HNX.out, nI_app, List.length_append]; rfl, by simp, by rw [HNX.out, nI_app, List.length_append]; exact HO9.out, HB9.out⟩, by simp [intOf]; omega⟩
      · have hde : (xd == d) = false := by simpa using hd
        have HNX := Lib.hid (HNO.out hd)
        clear HYES HNO
        go_wp2_with fail
        first
        | (go_roundw
           case rel => exact ⟨k + 1, A9, c9, by omega, by rw [HNX.out], by simp, by rw [HNX.out]; exact HO3.out, HB3.out⟩
           case measure => simp [intOf]; omega)
        | exact ⟨⟨k + 1, A9, c9, by omega, by rw [HNX.out], by simp, by rw [HNX.out]; exact HO3.out, HB3.out⟩, by simp [intOf]; omega⟩
    · have hkM : k = M.length := by omega
      go_wp2_with fail
      go_ret
      subst hkM
      exact ⟨⟨A9, c9, by rw [nI_len]; rfl, own_rd iE_len HO.out⟩, HB.out⟩
theorem bit_at (m k : Nat) (hm : m ≤ 1000000) : (bits BinOp.and IntKind.i64 ((m : Int) / 2 ^ k) 1 == 1) = m.testBit k := by
  have e : ((m : Int) / 2 ^ k) = ((m / 2 ^ k : Nat) : Int) := by simp
  have hle : m / 2 ^ k ≤ m := Nat.div_le_self _ _
  rw [e, Go.Proofs.and_one _ (by omega), Nat.testBit_eq_decide_div_mod_eq]
  by_cases h : m / 2 ^ k % 2 = 1
  · rw [decide_eq_true h, h]; rfl
  · rw [decide_eq_false h, show m / 2 ^ k % 2 = 0 by omega]; rfl
theorem subset_r (A : Option Addr) (c : Nat) (l : List Nat) (m : Nat) (w : World) (hl : l.length ≤ 50) (hm : m ≤ 1000000) (h : Rd iE 1 w w.heap.size A (nI l)) :
    Calls Try.prog 61 #[.slice A l.length c, .int .i64 m] w fun e w' => (∃ A9 c9, e = .returned (.slice A9 (subI l m).length c9) ∧ Rd iE 1 w' w'.heap.size A9 (nI (subI l m))) ∧ Below w.heap.size w w' := by
  have HT := Lib.hid h
  clear h
  go_enter Try.func61, Try.ntmps61
  go_wp2_with fail
  have HO0 := Lib.hid (own_nilI' (w := w))
  have h2 := cur_new w (.cells #[] 3)
  generalize w.alloc (.cells #[] 3) = w2 at HO0 h2 ⊢
  have HB2 := Lib.hid h2
  clear h2
  go_loopw [5, 11] (fun v iv wr => ∃ (k : Nat) (A9 : Option Addr) (c9 : Nat), k ≤ l.length ∧ v = .slice A9 (nI (subK l m k)).length c9 ∧ iv = .int .i64 k ∧ OwnL iE 1 3 w.heap.size wr (.slice A9 (nI (subK l m k)).length c9) (nI (subK l m k)) ∧ Below w.heap.size w wr) (fun _ i _ => l.length - (intOf i).toNat)
  case atStart => exact ⟨0, some ⟨w.heap.size, 0, none⟩, 0, by omega, rfl, rfl, HO0.out, HB2.out⟩
  case round =>
    clear HO0 HB2
    obtain ⟨k, A9, c9, hk, rfl, rfl, ho, hb⟩ := hrel
    rename World => wp
    have HO := Lib.hid ho
    have HB := Lib.hid hb
    clear ho hb
    by_cases hkl : k < l.length
    · obtain ⟨i, hi⟩ : ∃ i, l[k]? = some i := ⟨_, List.getElem?_eq_getElem hkl⟩
      obtain ⟨b5, off5, hA, hb5, q0⟩ := rdi_at HT.out HB.out (nI_at hi)
      have HYES := Lib.hid (fun hd => subK_yes (m := m) hi hd)
      have HNO := Lib.hid (fun hd => subK_no (l := l) (m := m) (k := k) hd)
      have l5 : b5 < wp.heap.size := Nat.lt_of_lt_of_le hb5 HB.out.size
      obtain ⟨S, hS⟩ : ∃ S, subK l m k = S := ⟨_, rfl⟩
      have hSl : S.length ≤ k := by rw [← hS]; exact subK_len _ _ _
      rw [hS] at HO HYES HNO ⊢
      have HAE := Lib.hid hA
      rw [hA]
      clear hi hA hb5 hS
      go_upto_region 5 with (fail)
      have HO3 := HO
      have HB3 := HB
      by_cases hd : m.testBit k = true
      · have hde : (bits BinOp.and IntKind.i64 ((m : Int) / 2 ^ k) 1 == 1) = true := by rw [bit_at m k hm]; exact hd
        have HNX := Lib.hid (HYES.out hd)
        clear HYES HNO
        go_upto_region 6 with (fail)
        obtain ⟨w4, hw4⟩ : ∃ W, wp.alloc (.cells (iE (i : Int)).toArray 3) = W := ⟨_, rfl⟩
        have HB4 := Lib.hid (show Below wp.heap.size wp w4 by rw [← hw4]; exact cur_new _ _)
        have HE4 := Lib.hid (show w4.heap[wp.heap.size]? = some (.cells (iE (i : Int)).toArray 3 (0, 0)) by rw [← hw4]; exact heap_alloc_new _ _)
        have HBW := Lib.hid (show w.heap.size ≤ w4.heap.size from Nat.le_trans HB3.out.size HB4.out.size)
        have S4 := Lib.hid hw4
        have HNL := Lib.hid (nI_len S)
        clear hw4
        go_upto_region 7 with (at_builtin; change wpList _ _ _ _ _ (wp.alloc (.cells (iE (i : Int)).toArray 3)); rw [S4.out]; refine wpList_app1 Try.iElem w4 rfl (.tmp 21) (.tmp 23) rfl w.heap.size A9 c9 (nI S) (by rfl) (own_below HO3.out HB4.out (Nat.le_refl _)) (i : Int) wp.heap.size 1 (by rfl) HE4.out (by have := HNL.out; unfold maxLen; omega) (by have := HNL.out; omega) HBW.out ?_; intro g9 cap9 w9 ha; have HA9 := Lib.hid ha; clear ha)
        have HFA := Lib.hid (show Far (adB A9) w4 w9 from Far.grown HA9.out.grown (fun b hb => adB_own hb))
        have HB9 := Lib.hid (show Below w.heap.size w w9 from (cur_step1 HB3.out HB4.out).trans (HFA.out.below HBW.out (fun y hy => (own_in HO3.out y hy).1)))
        have HO9 := Lib.hid (show OwnL iE 1 3 w.heap.size w9 (.slice (some ⟨g9, 0, none⟩) ((nI S).length + 1) cap9) (nI S ++ [(i : Int)]) from HA9.out.one rfl)
        clear HA9 HFA HE4 S4
        go_wp2_with fail
        first
        | (go_roundw
           case rel => exact ⟨k + 1, some ⟨g9, 0, none⟩, cap9, by omega, by rw [HNX.out, nI_app, List.length_append]; rfl, by simp, by rw [HNX.out, nI_app, List.length_append]; exact HO9.out, HB9.out⟩
           case measure => simp [intOf]; omega)
        | exact ⟨⟨k + 1, some ⟨g9, 0, none⟩, cap9, by omega, by rw [HNX.out, nI_app, List.length_append]; rfl, by simp, by rw [HNX.out, nI_app, List.length_append]; exact HO9.out, HB9.out⟩, by simp [intOf]; omega⟩
      · have hd : m.testBit k = false := by simpa using hd
        have hde : (bits BinOp.and IntKind.i64 ((m : Int) / 2 ^ k) 1 == 1) = false := by rw [bit_at m k hm]; exact hd
        have HNX := Lib.hid (HNO.out hd)
        clear HYES HNO
        go_wp2_with fail
        first
        | (go_roundw
           case rel => exact ⟨k + 1, A9, c9, by omega, by rw [HNX.out], by simp, by rw [HNX.out]; exact HO3.out, HB3.out⟩
           case measure => simp [intOf]; omega)
        | exact ⟨⟨k + 1, A9, c9, by omega, by rw [HNX.out], by simp, by rw [HNX.out]; exact HO3.out, HB3.out⟩, by simp [intOf]; omega⟩
    · have hkM : k = l.length := by omega
      go_wp2_with fail
      go_ret
      subst hkM
      exact ⟨⟨A9, c9, by rw [nI_len]; rfl, own_rd iE_len HO.out⟩, HB.out⟩

theorem tak_one {M : List Dty} {L : List Apd} {k p : Nat} {d : Int} {s : ByteArray} (hp : p < k) (h : stN M L d s p = true) : takB M L k d s = true := by
  unfold takB
  exact List.any_eq_true.2 ⟨p, List.mem_range.2 hp, h⟩
theorem tak_none {M : List Dty} {L : List Apd} {k : Nat} {d : Int} {s : ByteArray} (h : ∀ q, q < k → stN M L d s q = false) : takB M L k d s = false := by
  unfold takB
  exact List.any_eq_false.2 fun q hq => by rw [h q (List.mem_range.1 hq)]; decide
theorem busy_r (A C : Option Addr) (c e i : Nat) (M : List Dty) (L : List Apd) (x : Dty) (s : ByteArray) (r : Bool) (w : World) (hM : Rd dtE 4 w w.heap.size A M) (hL : Rd apE 3 w w.heap.size C L) (hml : M.length ≤ 1000) (hll : L.length ≤ M.length) (hx : M[i]? = some x) (hv : takB M L L.length x.d s = r) :
    Calls Try.prog 62 #[.slice A M.length c, .slice C L.length e, .int .i64 i, .string s] w fun e w' => e = .returned (.bool r) ∧ Below w.heap.size w w' := by
  have HV := Lib.hid hv
  have HM := Lib.hid hM
  have HL := Lib.hid hL
  have HX := Lib.hid hx
  have him : i < M.length := (List.getElem?_eq_some_iff.1 hx).1
  obtain ⟨xd, hxd⟩ : ∃ xd, x.d = xd := ⟨_, rfl⟩
  have HXD := Lib.hid hxd
  rw [hxd] at HV
  obtain ⟨bA, offA, hA, -, -⟩ := hM.at_ (Below.refl _ _) hx
  have HAE := Lib.hid hA
  rw [hA]
  clear hv hM hL hx hxd hA
  go_enter Try.func62, Try.ntmps62
  go_wp2_with fail
  go_loopw [13] (fun iv wr => ∃ p : Nat, p ≤ L.length ∧ iv = .int .i64 p ∧ (∀ q, q < p → stN M L xd s q = false) ∧ Below w.heap.size w wr) (fun j _ => L.length - (intOf j).toNat)
  case atStart => exact ⟨0, by omega, rfl, fun q h => by omega, Below.refl _ _⟩
  case round =>
    obtain ⟨p, hp, rfl, hnp, hb⟩ := hrel
    rename World => wr
    have HNP := Lib.hid hnp
    have HB := Lib.hid hb
    clear hnp hb
    by_cases hpk : p < L.length
    · obtain ⟨y, hy⟩ : ∃ y, L[p]? = some y := ⟨_, List.getElem?_eq_getElem hpk⟩
      obtain ⟨v, hv⟩ : ∃ v, M[p]? = some v := ⟨_, List.getElem?_eq_getElem (by omega)⟩
      obtain ⟨b6, off6, hC, hb6, hcl6⟩ := HL.out.at_ HB.out hy
      obtain ⟨b5', off5', hA', hb5, hcl5⟩ := HM.out.at_ HB.out hv
      rw [HAE.out] at hA'
      injection hA' with hA'
      injection hA' with e1 e2 _
      subst e1 e2
      obtain ⟨b5', off5', hA', hb5'', hclk⟩ := HM.out.at_ HB.out HX.out
      rw [HAE.out] at hA'
      injection hA' with hA'
      injection hA' with e1 e2 _
      subst e1 e2
      obtain ⟨d0, d1, d2⟩ := ap_cells hcl6
      obtain ⟨-, c1, -, -⟩ := dt_cells hcl5
      obtain ⟨-, f1, -, -⟩ := dt_cells hclk
      rw [HXD.out] at f1
      have l6 : b6 < wr.heap.size := Nat.lt_of_lt_of_le hb6 HB.out.size
      have l5 : bA < wr.heap.size := Nat.lt_of_lt_of_le hb5 HB.out.size
      obtain ⟨ym, yo, yt⟩ := y
      obtain ⟨vm, vd, vh, va⟩ := v
      dsimp only at d0 d1 d2 c1
      have HST := Lib.hid (show stN M L xd s p = (vd == xd && (seq yo s || seq yt s)) by unfold stN; rw [hv, hy])
      have HCE := Lib.hid hC
      rw [hC]
      clear hv hy hcl6 hcl5 hclk hb6 hb5 hb5'' hC
      have i6 : (p : Int) < (L.length : Int) := by omega
      have i7 : (0 : Int) ≤ (p : Int) := by omega
      have i8 : (p : Int) < (M.length : Int) := by omega
      have i9 : (i : Int) < (M.length : Int) := by omega
      have i10 : (0 : Int) ≤ (i : Int) := by omega
      go_upto_region 4 with (fail)
      have h9 := cur_new wr (.cells #[.int .i64 ym, .string yo, .string yt] 43)
      have k9 := Blk.new wr 43 [.int .i64 ym, .string yo, .string yt]
      have c1 := (h9.cell (p := ⟨bA, offA + p * 4 + 1, none⟩) l5).trans c1
      have f1 := (h9.cell (p := ⟨bA, offA + i * 4 + 1, none⟩) l5).trans f1
      have l5 : bA < (wr.alloc (.cells #[.int .i64 ym, .string yo, .string yt] 43)).heap.size := Nat.lt_of_lt_of_le l5 h9.size
      generalize wr.alloc (.cells #[.int .i64 ym, .string yo, .string yt] 43) = w9 at h9 k9 c1 f1 l5 ⊢
      obtain ⟨g9, hg9⟩ : ∃ g, wr.heap.size = g := ⟨_, rfl⟩
      rw [hg9] at k9 ⊢
      have HB9 := Lib.hid (cur_step1 HB.out h9)
      have y1 : w9.cell? ⟨g9, 1, none⟩ = some (.string yo) := k9.cell 1
      have y2 : w9.cell? ⟨g9, 2, none⟩ = some (.string yt) := k9.cell 2
      have l9 := k9.lt
      clear h9 k9 hg9 d0 d1 d2 l6 HB
      have HHIT := Lib.hid (show stN M L xd s p = true → true = r from fun h => by rw [← HV.out]; exact (tak_one hpk h).symm)
      have HMISS := Lib.hid (show stN M L xd s p = false → ∀ q, q < p + 1 → stN M L xd s q = false from fun h q hq => by
        by_cases e : q = p
        · rw [e]; exact h
        · exact HNP.out q (by omega))
      have es1 := seq_to yo s
      have es3 := seq_to yt s
      by_cases hvd : vd = xd
      · subst hvd
        cases s1 : seq yo s
        · cases s3 : seq yt s
          · rw [s1] at es1
            rw [s3] at es3
            have HNX := Lib.hid (HMISS.out (by rw [HST.out, s1, s3]; simp))
            clear HMISS HHIT s1 s3
            go_quiet (fail)
            go_wp2_with fail
            first
            | (go_roundw
               case rel => exact ⟨p + 1, by omega, by simp, HNX.out, below_drewN HB9.out _⟩
               case measure => simp [intOf]; omega)
            | exact ⟨⟨p + 1, by omega, by simp, HNX.out, below_drewN HB9.out _⟩, by simp [intOf]; omega⟩
          · rw [s1] at es1
            rw [s3] at es3
            have HE := Lib.hid (HHIT.out (by rw [HST.out, s1, s3]; simp))
            clear HMISS HHIT s1 s3
            go_quiet (fail)
            go_wp2_with fail
            go_ret
            exact ⟨ret_bool HE.out, below_drewN HB9.out _⟩
        · rw [s1] at es1
          have HE := Lib.hid (HHIT.out (by rw [HST.out, s1]; simp))
          clear HMISS HHIT s1 es3
          go_quiet (fail)
          go_wp2_with fail
          go_ret
          exact ⟨ret_bool HE.out, below_drewN HB9.out _⟩
      · have HNX := Lib.hid (HMISS.out (by rw [HST.out, show (vd == xd) = false by simpa using hvd]; rfl))
        clear HMISS HHIT es1 es3
        go_quiet (fail)
        go_wp2_with fail
        first
        | (go_roundw
           case rel => exact ⟨p + 1, by omega, by simp, HNX.out, below_drewN HB9.out _⟩
           case measure => simp [intOf]; omega)
        | exact ⟨⟨p + 1, by omega, by simp, HNX.out, below_drewN HB9.out _⟩, by simp [intOf]; omega⟩
    · have HE := Lib.hid (show false = r by rw [← HV.out]; exact (tak_none fun q hq => HNP.out q (by omega)).symm)
      go_wp2_with fail
      go_ret
      exact ⟨ret_bool HE.out, HB.out⟩

def datI (M : List Dty) (i : Nat) : Dty := match M[i]? with
  | some x => x
  | none => ⟨0, 0, ⟨#[]⟩, ⟨#[]⟩⟩
theorem datI_at {M : List Dty} {i : Nat} (h : i < M.length) : M[i]? = some (datI M i) := by
  unfold datI
  rw [List.getElem?_eq_getElem h]
theorem sub_mem {l : List Nat} {m i : Nat} (h : i ∈ subI l m) : i ∈ l := by
  unfold subI subK at h
  obtain ⟨j, hj, rfl⟩ := List.mem_map.1 h
  have hjl := List.mem_range.1 (List.mem_filter.1 hj).1
  rw [List.getElem?_eq_getElem hjl]
  exact List.getElem_mem hjl
theorem sub_len (l : List Nat) (m : Nat) : (subI l m).length ≤ l.length := subK_len l m l.length
def ableW (M : List Dty) (U : List Ump) (s : List Nat) : Nat := ableF (s.map (datI M)) U
def dfW (M : List Dty) (U : List Ump) (s : List Nat) : Int := 2 * (s.length : Int) - (ableW M U s : Int)
def stW (p : List Nat × Int) (s : List Nat) (D : Int) : List Nat × Int := if p.2 < D ∨ (D = p.2 ∧ 0 < D ∧ s.length < p.1.length) then (s, D) else p
def wK (M : List Dty) (U : List Ump) (l : List Nat) : Nat → List Nat × Int
  | 0 => ([], 0)
  | k + 1 => if k = 0 then ([], 0) else stW (wK M U l k) (subI l k) (dfW M U (subI l k))
theorem wK_mem {M : List Dty} {U : List Ump} {l : List Nat} : ∀ k, ∀ i ∈ (wK M U l k).1, i ∈ l := by
  intro k
  induction k with
  | zero => intro i hi; simp [wK] at hi
  | succ k ih =>
    intro i hi
    unfold wK at hi
    split at hi
    · simp at hi
    · unfold stW at hi
      split at hi
      · exact sub_mem hi
      · exact ih i hi
theorem wK_len {M : List Dty} {U : List Ump} {l : List Nat} : ∀ k, (wK M U l k).1.length ≤ l.length := by
  intro k
  induction k with
  | zero => simp [wK]
  | succ k ih =>
    unfold wK
    split
    · simp
    · unfold stW
      split
      · exact sub_len _ _
      · exact ih
def numW (M : List Dty) (l : List Nat) : List Int := l.map fun i => (datI M i).m
theorem numW_next {M : List Dty} {l : List Nat} {k i : Nat} (h : l[k]? = some i) : numW M (l.take (k + 1)) = numW M (l.take k) ++ [(datI M i).m] := by
  unfold numW
  rw [List.take_add_one, h, List.map_append]; rfl
theorem idx_sub {M : List Dty} {s : List Nat} (h : ∀ i ∈ s, i < M.length) : IdxOf M (nI s) (s.map (datI M)) := by
  refine ⟨by rw [nI_len, List.length_map], fun k t hk => ?_⟩
  unfold nI at hk
  rw [List.getElem?_map, Option.map_eq_some_iff] at hk
  obtain ⟨i, hi, rfl⟩ := hk
  exact ⟨i, datI M i, rfl, datI_at (h i (List.mem_of_getElem? hi)), by rw [List.getElem?_map, hi]; rfl⟩
theorem worst_r (A B C : Option Addr) (c d e : Nat) (M : List Dty) (U : List Ump) (l : List Nat) (w : World) (h : TaskR w A B M U) (hC : Rd iE 1 w w.heap.size C (nI l)) (hl : ∀ i ∈ l, i < M.length) (h10 : l.length ≤ 10) :
    Calls Try.prog 36 #[.slice A M.length c, .slice B U.length d, .slice C l.length e] w fun e w' => (∃ A9 c9, e = .returned (.tuple #[.slice A9 (numW M (wK M U l (2 ^ l.length)).1).length c9, .int .i64 (wK M U l (2 ^ l.length)).2]) ∧ Rd iE 1 w' w'.heap.size A9 (numW M (wK M U l (2 ^ l.length)).1)) ∧ Below w.heap.size w w' := by
  have HT := Lib.hid h
  have HC := Lib.hid hC
  have HLT := Lib.hid hl
  have hml := h.ml
  have hul := h.ul
  obtain ⟨N, hN⟩ : ∃ N, 2 ^ l.length = N := ⟨_, rfl⟩
  have hN1 : N ≤ 1024 := by rw [← hN]; exact Nat.pow_le_pow_right (by decide) h10
  have hN0 : 1 ≤ N := by rw [← hN]; exact Nat.one_le_two_pow
  have hsh : (2 : Int) ^ l.length = (N : Int) := by rw [← hN]; simp
  have hsh2 : IntKind.i64.wrap (N : Int) = (N : Int) := by simp [IntKind.wrap, IntKind.signed, IntKind.bits]; omega
  rw [hN]
  clear h hC hl hN
  go_enter Try.func36, Try.ntmps36
  go_wp2_with fail
  have h2 := cur_new w (.cells #[] 3)
  generalize w.alloc (.cells #[] 3) = w2 at h2 ⊢
  have HB2 := Lib.hid h2
  clear h2
  go_loopw [8, 9, 10] (fun v8 v9 v10 wr => ∃ (k : Nat) (best : List Nat) (most : Int) (A8 : Option Addr) (c8 : Nat), 1 ≤ k ∧ k ≤ N ∧ v8 = .slice A8 best.length c8 ∧ v9 = .int .i64 most ∧ v10 = .int .i64 k ∧ wK M U l k = (best, most) ∧ Rd iE 1 wr wr.heap.size A8 (nI best) ∧ Below w.heap.size w wr) (fun _ _ i _ => N - (intOf i).toNat)
  case atStart => exact ⟨1, [], 0, some ⟨w.heap.size, 0, none⟩, 0, by omega, by omega, rfl, rfl, rfl, rfl, Rd.nil_, HB2.out⟩
  case round =>
    clear HB2
    obtain ⟨k, best, most, A8, c8, hk0, hk, rfl, rfl, rfl, hw, hr, hb⟩ := hrel
    rename World => wp
    have HW := Lib.hid hw
    have HR := Lib.hid hr
    have HB := Lib.hid hb
    clear hw hr hb
    by_cases hkN : k < N
    · obtain ⟨s, hs⟩ : ∃ s, subI l k = s := ⟨_, rfl⟩
      have hsl : s.length ≤ 10 := by rw [← hs]; exact Nat.le_trans (sub_len _ _) h10
      have HSM := Lib.hid (show ∀ i ∈ s, i < M.length from fun i hi => HLT.out i (by rw [← hs] at hi; exact sub_mem hi))
      have HSB := Lib.hid (subset_r C e l k wp (by omega) (by omega) (HC.out.to HB.out))
      rw [hs] at HSB
      obtain ⟨a, ha⟩ : ∃ a, ableW M U s = a := ⟨_, rfl⟩
      have hal : a ≤ 1000 := by rw [← ha]; exact Nat.le_trans (able_le _ _) hul
      have HAB := Lib.hid (fun (w' : World) (A9 : Option Addr) (c9 : Nat) (hb : Below w.heap.size w w') (hr : Rd iE 1 w' w'.heap.size A9 (nI s)) => able_r A B A9 c d c9 M U (nI s) (s.map (datI M)) a w' (HT.out.to hb) hr (by rw [nI_len]; omega) (idx_sub HSM.out) ha)
      rw [nI_len] at HAB
      obtain ⟨D, hD⟩ : ∃ D : Int, 2 * (s.length : Int) - (a : Int) = D := ⟨_, rfl⟩
      have HNX := Lib.hid (show wK M U l (k + 1) = stW (best, most) s D by
        rw [← hD, ← ha, ← HW.out, ← hs]
        show (if k = 0 then ([], 0) else stW (wK M U l k) (subI l k) (dfW M U (subI l k))) = _
        rw [if_neg (by omega)]; rfl)
      obtain ⟨n, hn⟩ : ∃ n, s.length = n := ⟨_, rfl⟩
      have HN := Lib.hid hn
      rw [hn] at HSB HAB hsl hD
      have hw1 : IntKind.i64.wrap (2 * (n : Int)) = 2 * (n : Int) := by simp [IntKind.wrap, IntKind.signed, IntKind.bits]; omega
      have hw2 : IntKind.i64.wrap (2 * (n : Int) - (a : Int)) = D := by rw [hD]; simp [IntKind.wrap, IntKind.signed, IntKind.bits]; omega
      clear hs ha hn
      go_upto_region 7 with (first
        | (go_at_call 61; refine HSB.out.mono ?_; rintro r3 w3 ⟨⟨A9, c9, rfl, hr9⟩, hb3⟩; have HB3 := Lib.hid (cur_step1 HB.out hb3); have HR3 := Lib.hid hr9; have HRB3 := Lib.hid (HR.out.to hb3); clear hr9 hb3)
        | (go_at_call 45; refine (HAB.out w3 A9 c9 HB3.out HR3.out).mono ?_; rintro r4 w4 ⟨rfl, hb4⟩; have HB4 := Lib.hid (cur_step1 HB3.out hb4); have HR4 := Lib.hid (HR3.out.to hb4); have HRB4 := Lib.hid (HRB3.out.to hb4); clear hb4))
      obtain ⟨HS1, HS2⟩ : Hid (most < D ∨ (D = most ∧ 0 < D ∧ n < best.length) → wK M U l (k + 1) = (s, D)) ∧ Hid (¬ (most < D ∨ (D = most ∧ 0 < D ∧ n < best.length)) → wK M U l (k + 1) = (best, most)) :=
        ⟨Lib.hid fun h => by rw [HNX.out]; unfold stW; rw [HN.out]; exact if_pos h, Lib.hid fun h => by rw [HNX.out]; unfold stW; rw [HN.out]; exact if_neg h⟩
      have hk9 : k < 1024 := by omega
      by_cases h1 : most < D
      · have HX := Lib.hid (HS1.out (Or.inl h1))
        clear HS1 HS2
        go_wp2_with fail
        first
        | (go_roundw
           case rel => exact ⟨k + 1, s, D, A9, c9, by omega, by omega, by simp [HN.out], rfl, by simp, HX.out, HR4.out, HB4.out⟩
           case measure => simp [intOf]; omega)
        | exact ⟨⟨k + 1, s, D, A9, c9, by omega, by omega, by simp [HN.out], rfl, by simp, HX.out, HR4.out, HB4.out⟩, by simp [intOf]; omega⟩
      · by_cases h2 : D = most
        · have h2b : (D == most) = true := by simpa using h2
          have HD := Lib.hid h2
          clear h2
          by_cases h3 : 0 < D
          · by_cases h4 : n < best.length
            · have h4i : (n : Int) < (best.length : Int) := by omega
              have HX := Lib.hid (HS1.out (Or.inr ⟨HD.out, h3, h4⟩))
              clear HS1 HS2
              go_wp2_with fail
              first
              | (go_roundw
                 case rel => exact ⟨k + 1, s, D, A9, c9, by omega, by omega, by simp [HN.out], rfl, by simp, HX.out, HR4.out, HB4.out⟩
                 case measure => simp [intOf]; omega)
              | exact ⟨⟨k + 1, s, D, A9, c9, by omega, by omega, by simp [HN.out], rfl, by simp, HX.out, HR4.out, HB4.out⟩, by simp [intOf]; omega⟩
            · have h4i : ¬ (n : Int) < (best.length : Int) := by omega
              have HX := Lib.hid (HS2.out (fun h => h.elim h1 (fun h => h4 h.2.2)))
              clear HS1 HS2
              go_wp2_with fail
              first
              | (go_roundw
                 case rel => exact ⟨k + 1, best, most, A8, c8, by omega, by omega, by simp [HN.out], rfl, by simp, HX.out, HRB4.out, HB4.out⟩
                 case measure => simp [intOf]; omega)
              | exact ⟨⟨k + 1, best, most, A8, c8, by omega, by omega, by simp [HN.out], rfl, by simp, HX.out, HRB4.out, HB4.out⟩, by simp [intOf]; omega⟩
          · have HX := Lib.hid (HS2.out (fun h => h.elim h1 (fun h => h3 h.2.1)))
            clear HS1 HS2
            go_wp2_with fail
            first
            | (go_roundw
               case rel => exact ⟨k + 1, best, most, A8, c8, by omega, by omega, by simp [HN.out], rfl, by simp, HX.out, HRB4.out, HB4.out⟩
               case measure => simp [intOf]; omega)
            | exact ⟨⟨k + 1, best, most, A8, c8, by omega, by omega, by simp [HN.out], rfl, by simp, HX.out, HRB4.out, HB4.out⟩, by simp [intOf]; omega⟩
        · have h2b : (D == most) = false := by simpa using h2
          have HX := Lib.hid (HS2.out (fun h => h.elim h1 (fun h => h2 h.1)))
          clear HS1 HS2 h2
          go_wp2_with fail
          first
          | (go_roundw
             case rel => exact ⟨k + 1, best, most, A8, c8, by omega, by omega, by simp [HN.out], rfl, by simp, HX.out, HRB4.out, HB4.out⟩
             case measure => simp [intOf]; omega)
          | exact ⟨⟨k + 1, best, most, A8, c8, by omega, by omega, by simp [HN.out], rfl, by simp, HX.out, HRB4.out, HB4.out⟩, by simp [intOf]; omega⟩
    · have hkN : k = N := by omega
      subst hkN
      have HBM := Lib.hid (show ∀ i ∈ best, i < M.length from fun i hi => HLT.out i (wK_mem (M := M) (U := U) k i (by rw [HW.out]; exact hi)))
      have HBL := Lib.hid (show best.length ≤ 10 by have h1 := wK_len (M := M) (U := U) (l := l) k; rw [HW.out] at h1; exact Nat.le_trans h1 h10)
      go_wp2_with fail
      have HO0 := Lib.hid (own_nilI' (w := wp))
      have h2 := cur_new wp (.cells #[] 3)
      generalize wp.alloc (.cells #[] 3) = w2 at HO0 h2 ⊢
      have HB2 := Lib.hid h2
      clear h2
      go_loopw [13, 59] (fun v iv wr => ∃ (q : Nat) (A9 : Option Addr) (c9 : Nat), q ≤ best.length ∧ v = .slice A9 (numW M (best.take q)).length c9 ∧ iv = .int .i64 q ∧ OwnL iE 1 3 wp.heap.size wr (.slice A9 (numW M (best.take q)).length c9) (numW M (best.take q)) ∧ Below wp.heap.size wp wr) (fun _ i _ => best.length - (intOf i).toNat)
      case atStart => exact ⟨0, some ⟨wp.heap.size, 0, none⟩, 0, by omega, rfl, rfl, HO0.out, HB2.out⟩
      case round =>
        clear HO0 HB2
        obtain ⟨q, A9, c9, hq, rfl, rfl, ho, hb⟩ := hrel
        rename World => wo
        have HO := Lib.hid ho
        have HBI := Lib.hid hb
        have HBO := Lib.hid (cur_step1 HB.out hb)
        clear ho hb
        by_cases hql : q < best.length
        · obtain ⟨i, hi⟩ : ∃ i, best[q]? = some i := ⟨_, List.getElem?_eq_getElem hql⟩
          have him := HBM.out i (List.mem_of_getElem? hi)
          obtain ⟨b5, off5, hA, hb5, q0⟩ := rdi_at HR.out HBI.out (nI_at hi)
          obtain ⟨b6, off6, hA6, hb6, hcl6⟩ := HT.out.m.at_ HBO.out (datI_at him)
          obtain ⟨e0, -, -, -⟩ := dt_cells hcl6
          have HNX := Lib.hid (numW_next (M := M) hi)
          obtain ⟨X, hX⟩ : ∃ X, (datI M i).m = X := ⟨_, rfl⟩
          rw [hX] at e0 HNX
          have l5 : b5 < wo.heap.size := Nat.lt_of_lt_of_le hb5 HBI.out.size
          have l6 : b6 < wo.heap.size := Nat.lt_of_lt_of_le hb6 HBO.out.size
          obtain ⟨S, hS⟩ : ∃ S, numW M (best.take q) = S := ⟨_, rfl⟩
          have hSl : S.length ≤ q := by rw [← hS]; unfold numW; rw [List.length_map, List.length_take]; omega
          rw [hS] at HO HNX ⊢
          have i1 : (0 : Int) ≤ (i : Int) := by omega
          have i2 : (i : Int) < (M.length : Int) := by omega
          rw [hA, hA6]
          have HAE := Lib.hid hA
          have HAE6 := Lib.hid hA6
          clear hi hcl6 hA hA6 hb5 hb6 hS hX
          go_upto_region 13 with (fail)
          obtain ⟨w4, hw4⟩ : ∃ W, wo.alloc (.cells (iE X).toArray 3) = W := ⟨_, rfl⟩
          have HB4 := Lib.hid (show Below wo.heap.size wo w4 by rw [← hw4]; exact cur_new _ _)
          have HE4 := Lib.hid (show w4.heap[wo.heap.size]? = some (.cells (iE X).toArray 3 (0, 0)) by rw [← hw4]; exact heap_alloc_new _ _)
          have HBW := Lib.hid (show wp.heap.size ≤ w4.heap.size from Nat.le_trans HBI.out.size HB4.out.size)
          have S4 := Lib.hid hw4
          have hb10 := HBL.out
          clear hw4
          go_upto_region 14 with (at_builtin; change wpList _ _ _ _ _ (wo.alloc (.cells (iE X).toArray 3)); rw [S4.out]; refine wpList_app1 Try.iElem w4 rfl (.tmp 63) (.tmp 69) rfl wp.heap.size A9 c9 S (by rfl) (own_below HO.out HB4.out (Nat.le_refl _)) X wo.heap.size 1 (by rfl) HE4.out (by unfold maxLen; omega) (by omega) HBW.out ?_; intro g9 cap9 w9 ha; have HA9 := Lib.hid ha; clear ha)
          have HFA := Lib.hid (show Far (adB A9) w4 w9 from Far.grown HA9.out.grown (fun b hb => adB_own hb))
          have HBI9 := Lib.hid (show Below wp.heap.size wp w9 from (cur_step1 HBI.out HB4.out).trans (HFA.out.below HBW.out (fun y hy => (own_in HO.out y hy).1)))
          have HO9 := Lib.hid (show OwnL iE 1 3 wp.heap.size w9 (.slice (some ⟨g9, 0, none⟩) (S.length + 1) cap9) (S ++ [X]) from HA9.out.one rfl)
          clear HA9 HFA HE4 S4
          go_wp2_with fail
          first
          | (go_roundw
             case rel => exact ⟨q + 1, some ⟨g9, 0, none⟩, cap9, by omega, by rw [HNX.out, List.length_append]; rfl, by simp, by rw [HNX.out, List.length_append]; exact HO9.out, HBI9.out⟩
             case measure => simp [intOf]; omega)
          | exact ⟨⟨q + 1, some ⟨g9, 0, none⟩, cap9, by omega, by rw [HNX.out, List.length_append]; rfl, by simp, by rw [HNX.out, List.length_append]; exact HO9.out, HBI9.out⟩, by simp [intOf]; omega⟩
        · have HE := Lib.hid (show best.take q = best from List.take_of_length_le (by omega))
          rw [HE.out] at HO
          go_wp2_with fail
          go_ret2
          rw [HE.out, HW.out]
          exact ⟨⟨A9, c9, rfl, own_rd iE_len HO.out⟩, HBO.out⟩
end Go.Proofs.Ytckbhdokfkabfaa
