/-
  slices.Equal of two lists that read alike, chapter 54.
-/
import Derived.Test.YtpninpohligomaaGreatDoorCk54
import Derived.BigQuiet
import Derived.Laws.IdiomArrays
set_option linter.unusedSimpArgs false
set_option linter.unusedVariables false
namespace Go.Proofs.YtpninpohligomaaGreatDoor
open Go.RowKit
set_option maxRecDepth 100000
set_option maxHeartbeats 1000000
def EqN (w : World) (n : Nat) (i : Value) (wr : World) : Prop := ∃ k : Nat, k ≤ n ∧ i = .int .i64 k ∧ Below w.heap.size w wr
theorem neq_tr (x : Tr) (w : World) : (binOp .neq 51 (.agg #[.string x.p, .string x.t, .int .i64 x.d]) (.agg #[.string x.p, .string x.t, .int .i64 x.d])).run Tryz.prog w = .ok (.bool false) w := by
  rw [run_neq_struct, run_equalIn_struct w 9999 51 _ _ (by kernel_rfl) (by kernel_rfl)]
  simp [go_sem, Tryz.underlying51]
theorem guard_tr (op : BinOp) (x y : Operand) (xs ys : Array Value) (w : World) : (eqGuard op 51 x y (.agg xs) (.agg ys)).run Tryz.prog w = .ok () w := run_eqGuard_agg w op _ x y xs ys (by kernel_rfl)
theorem equal_tr (A B : Option Addr) (c d : Nat) (l : List Tr) (w : World) (hl : l.length ≤ 1000000) (hra : Rd trE 3 w w.heap.size A l) (hrb : Rd trE 3 w w.heap.size B l) :
    Calls Tryz.prog 21 #[.slice A l.length c, .slice B l.length d] w fun e w' => e = .returned (.bool true) ∧ Below w.heap.size w w' := by
  have HA := Lib.hid hra
  have HBb := Lib.hid hrb
  clear hra hrb
  go_enter Tryz.func21, Tryz.ntmps21
  go_wp2_with fail
  go_loopw [13] (EqN w l.length) (fun i _ => l.length - (intOf i).toNat)
  case atStart => exact ⟨0, by omega, rfl, Below.refl _ _⟩
  case round =>
    obtain ⟨k, hk, rfl, hB⟩ := hrel
    have HB := Lib.hid hB
    clear hB
    by_cases hlt : k < l.length
    · obtain ⟨x, hx⟩ : ∃ x, l[k]? = some x := ⟨_, List.getElem?_eq_getElem hlt⟩
      obtain ⟨b1, o1, rfl, hb1, hc1⟩ := HA.out.at_ HB.out hx
      obtain ⟨b2, o2, rfl, hb2, hc2⟩ := HBb.out.at_ HB.out hx
      have p0 : wr.cell? ⟨b1, o1 + k * 3, none⟩ = some (.string x.p) := hc1 0 _ rfl
      have q0 : wr.cell? ⟨b2, o2 + k * 3, none⟩ = some (.string x.p) := hc2 0 _ rfl
      have p1 : wr.cell? ⟨b1, o1 + k * 3 + 1, none⟩ = some (.string x.t) := hc1 1 _ rfl
      have q1 : wr.cell? ⟨b2, o2 + k * 3 + 1, none⟩ = some (.string x.t) := hc2 1 _ rfl
      have p2 : wr.cell? ⟨b1, o1 + k * 3 + 2, none⟩ = some (.int .i64 x.d) := hc1 2 _ rfl
      have q2 : wr.cell? ⟨b2, o2 + k * 3 + 2, none⟩ = some (.int .i64 x.d) := hc2 2 _ rfl
      have l1 : b1 < wr.heap.size := by have := HB.out.size; omega
      have l2 : b2 < wr.heap.size := by have := HB.out.size; omega
      have hn2 : ∀ w, _ := fun w => neq_tr x w
      have hg := guard_tr
      clear hc1 hc2 hx
      go_wp2_with fail
      go_quiet (fail)
      go_wp2_with fail
      go_roundw
      case rel => exact ⟨k + 1, hlt, by simp, below_drewN HB.out _⟩
      case measure => simp [intOf]; omega
    · go_wp2_with fail
      go_ret
      exact ⟨rfl, HB.out⟩
theorem neq_wn (x : Wn) (w : World) : (binOp .neq 48 (.agg #[.int .i64 x.f, .int .i64 x.t]) (.agg #[.int .i64 x.f, .int .i64 x.t])).run Tryz.prog w = .ok (.bool false) w := by
  rw [run_neq_struct, run_equalIn_struct w 9999 48 _ _ (by kernel_rfl) (by kernel_rfl)]
  simp [go_sem, Tryz.underlying48]
theorem guard_wn (op : BinOp) (x y : Operand) (xs ys : Array Value) (w : World) : (eqGuard op 48 x y (.agg xs) (.agg ys)).run Tryz.prog w = .ok () w := run_eqGuard_agg w op _ x y xs ys (by kernel_rfl)
theorem equal_wn (A B : Option Addr) (c d : Nat) (l : List Wn) (w : World) (hl : l.length ≤ 1000000) (hra : Rd wnE 2 w w.heap.size A l) (hrb : Rd wnE 2 w w.heap.size B l) :
    Calls Tryz.prog 20 #[.slice A l.length c, .slice B l.length d] w fun e w' => e = .returned (.bool true) ∧ Below w.heap.size w w' := by
  have HA := Lib.hid hra
  have HBb := Lib.hid hrb
  clear hra hrb
  go_enter Tryz.func20, Tryz.ntmps20
  go_wp2_with fail
  go_loopw [13] (EqN w l.length) (fun i _ => l.length - (intOf i).toNat)
  case atStart => exact ⟨0, by omega, rfl, Below.refl _ _⟩
  case round =>
    obtain ⟨k, hk, rfl, hB⟩ := hrel
    have HB := Lib.hid hB
    clear hB
    by_cases hlt : k < l.length
    · obtain ⟨x, hx⟩ : ∃ x, l[k]? = some x := ⟨_, List.getElem?_eq_getElem hlt⟩
      obtain ⟨b1, o1, rfl, hb1, hc1⟩ := HA.out.at_ HB.out hx
      obtain ⟨b2, o2, rfl, hb2, hc2⟩ := HBb.out.at_ HB.out hx
      have p0 : wr.cell? ⟨b1, o1 + k * 2, none⟩ = some (.int .i64 x.f) := hc1 0 _ rfl
      have q0 : wr.cell? ⟨b2, o2 + k * 2, none⟩ = some (.int .i64 x.f) := hc2 0 _ rfl
      have p1 : wr.cell? ⟨b1, o1 + k * 2 + 1, none⟩ = some (.int .i64 x.t) := hc1 1 _ rfl
      have q1 : wr.cell? ⟨b2, o2 + k * 2 + 1, none⟩ = some (.int .i64 x.t) := hc2 1 _ rfl
      have l1 : b1 < wr.heap.size := by have := HB.out.size; omega
      have l2 : b2 < wr.heap.size := by have := HB.out.size; omega
      have hn2 : ∀ w, _ := fun w => neq_wn x w
      have hg := guard_wn
      clear hc1 hc2 hx
      go_wp2_with fail
      go_quiet (fail)
      go_wp2_with fail
      go_roundw
      case rel => exact ⟨k + 1, hlt, by simp, below_drewN HB.out _⟩
      case measure => simp [intOf]; omega
    · go_wp2_with fail
      go_ret
      exact ⟨rfl, HB.out⟩
theorem neq_rw (x : Wn) (w : World) : (binOp .neq 56 (.agg #[.int .i64 x.f, .int .i64 x.t]) (.agg #[.int .i64 x.f, .int .i64 x.t])).run Tryz.prog w = .ok (.bool false) w := by
  rw [run_neq_struct, run_equalIn_struct w 9999 56 _ _ (by kernel_rfl) (by kernel_rfl)]
  simp [go_sem, Tryz.underlying56]
theorem guard_rw (op : BinOp) (x y : Operand) (xs ys : Array Value) (w : World) : (eqGuard op 56 x y (.agg xs) (.agg ys)).run Tryz.prog w = .ok () w := run_eqGuard_agg w op _ x y xs ys (by kernel_rfl)
theorem equal_rw (A B : Option Addr) (c d : Nat) (l : List Wn) (w : World) (hl : l.length ≤ 1000000) (hra : Rd wnE 2 w w.heap.size A l) (hrb : Rd wnE 2 w w.heap.size B l) :
    Calls Tryz.prog 23 #[.slice A l.length c, .slice B l.length d] w fun e w' => e = .returned (.bool true) ∧ Below w.heap.size w w' := by
  have HA := Lib.hid hra
  have HBb := Lib.hid hrb
  clear hra hrb
  go_enter Tryz.func23, Tryz.ntmps23
  go_wp2_with fail
  go_loopw [13] (EqN w l.length) (fun i _ => l.length - (intOf i).toNat)
  case atStart => exact ⟨0, by omega, rfl, Below.refl _ _⟩
  case round =>
    obtain ⟨k, hk, rfl, hB⟩ := hrel
    have HB := Lib.hid hB
    clear hB
    by_cases hlt : k < l.length
    · obtain ⟨x, hx⟩ : ∃ x, l[k]? = some x := ⟨_, List.getElem?_eq_getElem hlt⟩
      obtain ⟨b1, o1, rfl, hb1, hc1⟩ := HA.out.at_ HB.out hx
      obtain ⟨b2, o2, rfl, hb2, hc2⟩ := HBb.out.at_ HB.out hx
      have p0 : wr.cell? ⟨b1, o1 + k * 2, none⟩ = some (.int .i64 x.f) := hc1 0 _ rfl
      have q0 : wr.cell? ⟨b2, o2 + k * 2, none⟩ = some (.int .i64 x.f) := hc2 0 _ rfl
      have p1 : wr.cell? ⟨b1, o1 + k * 2 + 1, none⟩ = some (.int .i64 x.t) := hc1 1 _ rfl
      have q1 : wr.cell? ⟨b2, o2 + k * 2 + 1, none⟩ = some (.int .i64 x.t) := hc2 1 _ rfl
      have l1 : b1 < wr.heap.size := by have := HB.out.size; omega
      have l2 : b2 < wr.heap.size := by have := HB.out.size; omega
      have hn2 : ∀ w, _ := fun w => neq_rw x w
      have hg := guard_rw
      clear hc1 hc2 hx
      go_wp2_with fail
      go_quiet (fail)
      go_wp2_with fail
      go_roundw
      case rel => exact ⟨k + 1, hlt, by simp, below_drewN HB.out _⟩
      case measure => simp [intOf]; omega
    · go_wp2_with fail
      go_ret
      exact ⟨rfl, HB.out⟩
end Go.Proofs.YtpninpohligomaaGreatDoor
