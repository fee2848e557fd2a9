/-
  Chapter 55: clones of rows, an umpire taken for good, a copy of a matching.
-/
import Derived.Test.YtckbhdokfkabfaaFil55
set_option linter.unusedSimpArgs false
set_option linter.unusedVariables false
namespace Go.Proofs.Ytckbhdokfkabfaa
open Go.RowKit
set_option maxRecDepth 100000
set_option maxHeartbeats 8000000
theorem clone_i {α : Type} {enc : α → List Value} (E : ElemOf Try.prog enc 1 8 38 3) (l : List α) (A : Option Addr) (c : Nat) (w : World) (hl : l.length ≤ 10000) (hrd : Rd enc 1 w w.heap.size A l) :
    Calls Try.prog 58 #[.slice A l.length c] w fun e w' => (∃ A' c', e = .returned (.slice A' l.length c') ∧ OwnL enc 1 3 w.heap.size w' (.slice A' l.length c') l) ∧ Below w.heap.size w w' := by
  cases A with
  | none =>
    have h0 : l = [] := by
      cases l with
      | nil => rfl
      | cons x r => obtain ⟨b, o, e, _⟩ := hrd 0 x rfl; cases e
    subst h0
    go_enter Try.func58, Try.ntmps58
    have q22 : ∀ (w : World) (a : Option Addr) (n c n' c' : Nat), (binOp .eql 38 (.slice a n c) (.slice none n' c')).run Try.prog w = .ok (.bool a.isNone) w := fun w a n c n' c' => Lib.run_eql_slice_nil w _ _ a n c n' c' Try.underlying38
    go_wp2_with (fail)
    go_ret
    exact ⟨⟨none, 0, rfl, World.ownsRow_nil _ _ _ _⟩, Below.refl _ _⟩
  | some ad =>
    have HRD := Lib.hid hrd
    clear hrd
    obtain ⟨W1, hW1⟩ : ∃ y, w.alloc (.cells #[] 3) = y := ⟨_, rfl⟩
    have HB1 := Lib.hid (show Below w.heap.size w W1 by rw [← hW1]; exact cur_new _ _)
    have HO1 := Lib.hid (show OwnL enc 1 3 w.heap.size W1 (.slice (some ⟨w.heap.size, 0, none⟩) ([] : List α).length 0) [] by rw [← hW1]; exact World.ownsRow_made w #[] 0 (Nat.le_refl _) (Nat.zero_le _) (by simp))
    have S1 := Lib.hid hW1
    have q22 : ∀ (w : World) (a : Option Addr) (n c n' c' : Nat), (binOp .eql 38 (.slice a n c) (.slice none n' c')).run Try.prog w = .ok (.bool a.isNone) w := fun w a n c n' c' => Lib.run_eql_slice_nil w _ _ a n c n' c' Try.underlying38
    clear hW1
    go_enter Try.func58, Try.ntmps58
    go_wp2_with (at_builtin; rw [S1.out]; refine wpList_appL E W1 rfl (.tmp 5) (.tmp 6) rfl w.heap.size w.heap.size 0 [] rfl HO1.out (some ad) c l rfl (HRD.out.to HB1.out) (by unfold maxLen; simp; omega) (by simp; omega) HB1.out.size ?_)
    intro g cap w2 ho hg _
    have HO := Lib.hid (show OwnL enc 1 3 w.heap.size w2 (.slice (some ⟨g, 0, none⟩) l.length cap) l from ho)
    try change wpList _ _ _ _ (Act.put _ _ (.slice (some ⟨g, 0, none⟩) l.length cap)) w2
    have HB2 := Lib.hid (HB1.out.grown hg HB1.out.size (fun b hb => by injection hb with hb; omega))
    clear ho hg
    go_wp2_with (fail)
    go_ret
    exact ⟨⟨_, _, rfl, HO.out⟩, HB2.out⟩
theorem clone_b (l : List Bool) (A : Option Addr) (c : Nat) (w : World) (hl : l.length ≤ 10000) (hrd : Rd boE 1 w w.heap.size A l) :
    Calls Try.prog 76 #[.slice A l.length c] w fun e w' => (∃ A' c', e = .returned (.slice A' l.length c') ∧ OwnL boE 1 4 w.heap.size w' (.slice A' l.length c') l) ∧ Below w.heap.size w w' := by
  cases A with
  | none =>
    have h0 : l = [] := by
      cases l with
      | nil => rfl
      | cons x r => obtain ⟨b, o, e, _⟩ := hrd 0 x rfl; cases e
    subst h0
    go_enter Try.func76, Try.ntmps76
    have q22 : ∀ (w : World) (a : Option Addr) (n c n' c' : Nat), (binOp .eql 94 (.slice a n c) (.slice none n' c')).run Try.prog w = .ok (.bool a.isNone) w := fun w a n c n' c' => Lib.run_eql_slice_nil w _ _ a n c n' c' Try.underlying94
    go_wp2_with (fail)
    go_ret
    exact ⟨⟨none, 0, rfl, World.ownsRow_nil _ _ _ _⟩, Below.refl _ _⟩
  | some ad =>
    have HRD := Lib.hid hrd
    clear hrd
    obtain ⟨W1, hW1⟩ : ∃ y, w.alloc (.cells #[] 4) = y := ⟨_, rfl⟩
    have HB1 := Lib.hid (show Below w.heap.size w W1 by rw [← hW1]; exact cur_new _ _)
    have HO1 := Lib.hid (show OwnL boE 1 4 w.heap.size W1 (.slice (some ⟨w.heap.size, 0, none⟩) ([] : List Bool).length 0) [] by rw [← hW1]; exact World.ownsRow_made w #[] 0 (Nat.le_refl _) (Nat.zero_le _) (by simp))
    have S1 := Lib.hid hW1
    have q22 : ∀ (w : World) (a : Option Addr) (n c n' c' : Nat), (binOp .eql 94 (.slice a n c) (.slice none n' c')).run Try.prog w = .ok (.bool a.isNone) w := fun w a n c n' c' => Lib.run_eql_slice_nil w _ _ a n c n' c' Try.underlying94
    clear hW1
    go_enter Try.func76, Try.ntmps76
    go_wp2_with (at_builtin; rw [S1.out]; refine wpList_appL Try.boElem W1 rfl (.tmp 5) (.tmp 6) rfl w.heap.size w.heap.size 0 [] rfl HO1.out (some ad) c l rfl (HRD.out.to HB1.out) (by unfold maxLen; simp; omega) (by simp; omega) HB1.out.size ?_)
    intro g cap w2 ho hg _
    have HO := Lib.hid (show OwnL boE 1 4 w.heap.size w2 (.slice (some ⟨g, 0, none⟩) l.length cap) l from ho)
    try change wpList _ _ _ _ (Act.put _ _ (.slice (some ⟨g, 0, none⟩) l.length cap)) w2
    have HB2 := Lib.hid (HB1.out.grown hg HB1.out.size (fun b hb => by injection hb with hb; omega))
    clear ho hg
    go_wp2_with (fail)
    go_ret
    exact ⟨⟨_, _, rfl, HO.out⟩, HB2.out⟩
theorem nG_at {l : List Nat} {k : Nat} (h : k < l.length) : l[k]? = some (l[k]?.getD 0) := by rw [List.getElem?_eq_getElem h]; rfl
theorem take_p (B : Nat) (x : Mx) (rows : List Rw) (need : List Nat) (us : List Int) (m u : Nat) (w : World) (hnu : x.nu ≤ 1000) (hnm : x.nm ≤ 1000) (hm : m < x.nm) (hu : u < x.nu) (h1 : 1 ≤ need[m]?.getD 0) (h2 : need[m]?.getD 0 ≤ 1000) (h : MatS B x rows need us w) :
    Calls Try.prog 60 #[.pointer (some ⟨x.bX, 0, none⟩), .int .i64 (m : Int), .int .i64 (u : Int)] w fun e w' => e = .returned (.tuple #[]) ∧ MatS B x rows (need.set m (need[m]?.getD 0 - 1)) (us.set u (-2)) w' ∧ Far (adB x.U ++ adB x.N) w w' := by
  obtain ⟨c0, c1, c2, cl⟩ := h.cells
  obtain ⟨gU, hgU, cU, fU, hgUl, -, -⟩ := own1_at iE_len h.hused (uG_at (by rw [h.lu]; exact hu)) rfl
  obtain ⟨gN, hgN, -, -, -, -, -⟩ := own1_at nE_len h.hneed (nG_at (by rw [h.ln]; exact hm)) rfl
  obtain ⟨w5, hw5⟩ : ∃ W, w.setCell ⟨gU, u, none⟩ (.int .i64 (-2)) = W := ⟨_, rfl⟩
  have hF5 : Far (adB x.U) w w5 := by rw [← hw5, hgU]; exact Far.cell w gU u _
  have hM5 : MatS B x rows need (us.set u (-2)) w5 := h.setU hF5 (by
    have h3 := h.hused
    rw [hgU] at h3 ⊢
    rw [← hw5]
    exact own1_set iE_len h3 rfl) (by simpa using h.lu)
  obtain ⟨d0, d1, d2, dl⟩ := hM5.cells
  obtain ⟨gN', hgN', cN, fN, hgNl, -, -⟩ := own1_at nE_len hM5.hneed (nG_at (by rw [hM5.ln]; exact hm)) rfl
  rw [hgN] at hgN'
  injection hgN' with hgN'
  injection hgN' with hgN' _ _
  subst hgN'
  obtain ⟨q, hq⟩ : ∃ q, need[m]?.getD 0 = q + 1 := ⟨need[m]?.getD 0 - 1, by omega⟩
  rw [hq] at cN h1 h2 ⊢
  have hM6 : MatS B x rows (need.set m q) (us.set u (-2)) (w5.setCell ⟨gN, m, none⟩ (.int .i64 (q : Int))) := hM5.setN (by rw [hgN]; exact Far.cell w5 gN m _) (by
    have h3 := hM5.hneed
    rw [hgN] at h3 ⊢
    exact own1_set nE_len h3 rfl) (by simpa using hM5.ln)
  have HM6 := Lib.hid hM6
  have HF6 := Lib.hid (show Far (adB x.U ++ adB x.N) w (w5.setCell ⟨gN, m, none⟩ (.int .i64 (q : Int))) from (hF5.sub (fun y hy => by simp [hy])).trans (Far.cell w5 gN m _) (fun y hy => Or.inl (by simp at hy; subst hy; rw [hgN]; simp [adB])))
  have S5 := Lib.hid hw5
  have hq1000 : q < 1000 := by omega
  rw [hgU] at c2
  rw [hgN] at d1
  clear hM6 hM5 hF5 hw5 h c0 c1 d0 d2 hq hgU hgN
  go_enter Try.func60, Try.ntmps60
  go_upto_region 1 with (fail)
  rw [S5.out]
  have hqq : ((q + 1 : Nat) : Int) - 1 = (q : Int) := by omega
  go_wp2_with (fail)
  go_end0
  exact ⟨rfl, HM6.out, HF6.out⟩
end Go.Proofs.Ytckbhdokfkabfaa
