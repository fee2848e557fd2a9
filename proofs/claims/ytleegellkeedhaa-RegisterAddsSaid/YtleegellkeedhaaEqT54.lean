/-
  Chapter 54: slices.Equal of two lists that read alike; slices.Index, slices.Contains of an entry that is there.
-/
import Derived.Test.YtleegellkeedhaaLawSt54
namespace Go.Proofs.Ytleegellkeedhaa
open Go.RowKit
set_option maxRecDepth 100000
set_option maxHeartbeats 1000000
def eqTr (x y : Tr) : Bool := seq x.p y.p && (seq x.t y.t && (x.d == y.d))
theorem eqTr_self (x : Tr) : eqTr x x = true := by
  unfold eqTr
  rw [seq_eq.2 rfl, seq_eq.2 rfl]
  simp
theorem neqTr (x y : Tr) (w : World) : (binOp .neq 38 (.agg #[.string x.p, .string x.t, .int .i64 x.d]) (.agg #[.string y.p, .string y.t, .int .i64 y.d])).run Try.prog w = .ok (.bool (!eqTr x y)) w := by
  rw [run_neq_struct, run_equalIn_struct w 9999 38 _ _ (by kernel_rfl) (by kernel_rfl)]
  simp [go_sem, Try.underlying38, seq_to, eqTr]
  cases seq x.p y.p <;> cases seq x.t y.t <;> by_cases h3 : x.d = y.d <;> simp [h3]
theorem eqlTr (x y : Tr) (w : World) : (binOp .eql 38 (.agg #[.string x.p, .string x.t, .int .i64 x.d]) (.agg #[.string y.p, .string y.t, .int .i64 y.d])).run Try.prog w = .ok (.bool (eqTr x y)) w := by
  rw [run_eql_struct, run_equalIn_struct w 9999 38 _ _ (by kernel_rfl) (by kernel_rfl)]
  simp [go_sem, Try.underlying38, seq_to, eqTr]
  cases seq x.p y.p <;> cases seq x.t y.t <;> by_cases h3 : x.d = y.d <;> simp [h3]
theorem guardTr (op : BinOp) (x y : Operand) (xs ys : Array Value) (w : World) : (eqGuard op 38 x y (.agg xs) (.agg ys)).run Try.prog w = .ok () w := run_eqGuard_agg w op _ x y xs ys (by kernel_rfl)
def EqT (w : World) (n : Nat) (i : Value) (wr : World) : Prop := ∃ k : Nat, k ≤ n ∧ i = .int .i64 k ∧ Below w.heap.size w wr
theorem equal_t (A B : Option Addr) (c d : Nat) (l : List Tr) (w : World) (hl : l.length ≤ 1000000) (hra : Rd trE 3 w w.heap.size A l) (hrb : Rd trE 3 w w.heap.size B l) :
    Calls Try.prog 17 #[.slice A l.length c, .slice B l.length d] w fun e w' => e = .returned (.bool true) ∧ Below w.heap.size w w' := by
  have HA := Lib.hid hra
  have HBb := Lib.hid hrb
  clear hra hrb
  go_enter Try.func17, Try.ntmps17
  go_wp2_with fail
  go_loopw [13] (EqT w l.length) (fun i _ => l.length - (intOf i).toNat)
  case atStart => exact ⟨0, by omega, rfl, Below.refl _ _⟩
  case round =>
    obtain ⟨k, hk, rfl, hB⟩ := hrel
    have HB := Lib.hid hB
    clear hB
    by_cases hlt : k < l.length
    · obtain ⟨x, hx⟩ : ∃ x, l[k]? = some x := ⟨_, List.getElem?_eq_getElem hlt⟩
      obtain ⟨b1, o1, rfl, hb1, hc1⟩ := HA.out.at_ HB.out hx
      obtain ⟨b2, o2, rfl, hb2, hc2⟩ := HBb.out.at_ HB.out hx
      obtain ⟨p0, p1, p2⟩ := tr_cells hc1
      obtain ⟨q0, q1, q2⟩ := tr_cells hc2
      have l1 : b1 < wr.heap.size := by have := HB.out.size; omega
      have l2 : b2 < wr.heap.size := by have := HB.out.size; omega
      have hn2 : ∀ w, _ := fun w => (neqTr x x w).trans (by rw [eqTr_self])
      have hg := guardTr
      clear hc1 hc2 hx
      go_wp2_with fail
      go_quiet (fail)
      go_wp2_with fail
      go_roundw
      case rel => exact ⟨k + 1, hlt, by simp, below_drewN HB.out _⟩
      case measure => simp [intOf]; omega
    · go_wp2_with fail
      go_ret
      exact ⟨rfl, HB.out⟩
theorem index_t (A : Option Addr) (c : Nat) (l : List Tr) (t : Tr) (n : Nat) (w : World) (hl : l.length ≤ 1000000) (hr : Rd trE 3 w w.heap.size A l) (hn : l[n]? = some t) :
    Calls Try.prog 40 #[.slice A l.length c, .agg #[.string t.p, .string t.t, .int .i64 t.d]] w fun e w' => ∃ k : Nat, e = .returned (.int .i64 k) ∧ Below w.heap.size w w' := by
  have HA := Lib.hid hr
  have HN := Lib.hid hn
  have hnl := (List.getElem?_eq_some_iff.1 hn).1
  clear hr hn
  go_enter Try.func40, Try.ntmps40
  go_wp2_with fail
  have hbx := cur_new w (.cells #[.string t.p, .string t.t, .int .i64 t.d] 38)
  have hbk := Blk.new w 38 [.string t.p, .string t.t, .int .i64 t.d]
  obtain ⟨g, hg⟩ : ∃ g, g = w.heap.size := ⟨_, rfl⟩
  generalize w.alloc (Obj.cells #[.string t.p, .string t.t, .int .i64 t.d] 38) = w0 at hbx hbk ⊢
  have HBX := Lib.hid hbx
  have HA0 := Lib.hid (HA.out.to hbx)
  rw [← hg] at hbk ⊢
  have HK := Lib.hid hbk
  clear hbx hbk hg HA
  go_loopw [8] (EqT w0 n) (fun i _ => l.length - (intOf i).toNat)
  case atStart => exact ⟨0, by omega, rfl, Below.refl _ _⟩
  case round =>
    obtain ⟨k, hk, rfl, hB⟩ := hrel
    have HB := Lib.hid hB
    have hkl : k < l.length := by omega
    obtain ⟨x, hx⟩ : ∃ x, l[k]? = some x := ⟨_, List.getElem?_eq_getElem hkl⟩
    obtain ⟨b1, o1, rfl, hb1, hc1⟩ := HA0.out.at_ HB.out hx
    obtain ⟨p0, p1, p2⟩ := tr_cells hc1
    have l1 : b1 < wr.heap.size := by have := HB.out.size; omega
    have hkb := HK.out.to hB
    have q0 := hkb.cell 0
    have q1 := hkb.cell 1
    have q2 := hkb.cell 2
    have lg := hkb.lt
    simp only [List.getElem?_cons_zero, List.getElem?_cons_succ] at q0 q1 q2
    have hg2 := guardTr
    have HX := Lib.hid hx
    clear hc1 hx hB hkb
    cases he : eqTr t x
    · have hn2 : ∀ w, _ := fun w => (eqlTr t x w).trans (by rw [he])
      have hk2 : k < n := by
        by_cases e : k = n
        · subst e
          have h := HX.out
          rw [HN.out] at h
          injection h with h
          subst h
          rw [eqTr_self] at he
          cases he
        · omega
      have HK2 := Lib.hid hk2
      clear he hk2
      go_wp2_with fail
      go_quiet (fail)
      go_wp2_with fail
      go_roundw
      case rel => exact ⟨k + 1, HK2.out, by simp, below_drewN HB.out _⟩
      case measure => simp [intOf]; omega
    · have hn2 : ∀ w, _ := fun w => (eqlTr t x w).trans (by rw [he])
      clear he
      go_wp2_with fail
      go_quiet (fail)
      go_wp2_with fail
      go_ret
      exact ⟨k, rfl, cur_step1 HBX.out (below_drewN HB.out _)⟩
theorem contains_t (A : Option Addr) (c : Nat) (l : List Tr) (t : Tr) (n : Nat) (w : World) (hl : l.length ≤ 1000000) (hr : Rd trE 3 w w.heap.size A l) (hn : l[n]? = some t) :
    Calls Try.prog 18 #[.slice A l.length c, .agg #[.string t.p, .string t.t, .int .i64 t.d]] w fun e w' => e = .returned (.bool true) ∧ Below w.heap.size w w' := by
  have HA := Lib.hid hr
  have HN := Lib.hid hn
  clear hr hn
  go_enter Try.func18, Try.ntmps18
  go_wp2_with (go_at_call 40; refine (index_t A c l t n _ hl (HA.out.to (by first | exact Below.refl _ _ | exact cur_new _ _)) HN.out).mono ?_; rintro e w1 ⟨k, rfl, hb1⟩)
  all_goals
    go_ret
    exact ⟨ret_bool (by simp), by first | exact hb1 | exact cur_step0 hb1⟩
end Go.Proofs.Ytleegellkeedhaa
