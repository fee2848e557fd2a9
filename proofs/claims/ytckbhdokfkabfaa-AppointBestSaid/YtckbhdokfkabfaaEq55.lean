/-
  Chapter 55: slices.Equal at appointments and at numbers.
-/
import Derived.Test.YtckbhdokfkabfaaSp55
import Derived.Laws.StructEq
set_option linter.unusedSimpArgs false
set_option linter.unusedVariables false
namespace Go.Proofs.Ytckbhdokfkabfaa
open Go.RowKit
set_option maxRecDepth 100000
set_option maxHeartbeats 4000000
instance : DecidableEq Apd := fun x y => decidable_of_iff (x.m = y.m ∧ x.one = y.one ∧ x.two = y.two) (by cases x; cases y; simp)
def eqAp (x y : Apd) : Bool := (x.m == y.m) && (seq x.one y.one && seq x.two y.two)
theorem eqAp_iff (x y : Apd) : eqAp x y = decide (x = y) := by
  have h1 := @seq_eq x.one y.one
  have h2 := @seq_eq x.two y.two
  obtain ⟨xm, xo, xt⟩ := x
  obtain ⟨ym, yo, yt⟩ := y
  unfold eqAp
  rw [Bool.eq_iff_iff]
  simp only [Bool.and_eq_true, beq_iff_eq, decide_eq_true_eq, Apd.mk.injEq]
  dsimp only at h1 h2
  rw [h1, h2]
theorem neqAp (x y : Apd) (w : World) : (binOp .neq 43 (.agg #[.int .i64 x.m, .string x.one, .string x.two]) (.agg #[.int .i64 y.m, .string y.one, .string y.two])).run Try.prog w = .ok (.bool (!eqAp x y)) w := by
  rw [run_neq_struct, run_equalIn_struct w 9999 43 _ _ (by kernel_rfl) (by kernel_rfl)]
  simp [go_sem, Try.underlying43, seq_to, eqAp]
  cases seq x.one y.one <;> cases seq x.two y.two <;> by_cases h3 : x.m = y.m <;> simp [h3]
theorem guardAp (op : BinOp) (x y : Operand) (xs ys : Array Value) (w : World) : (eqGuard op 43 x y (.agg xs) (.agg ys)).run Try.prog w = .ok () w := run_eqGuard_agg w op _ x y xs ys (by kernel_rfl)
theorem take_next {α : Type} {l : List α} {k : Nat} {x : α} (h : l[k]? = some x) : l.take (k + 1) = l.take k ++ [x] := by rw [List.take_add_one, h]; rfl
theorem eq_ap (A B : Option Addr) (c d : Nat) (l m : List Apd) (w : World) (hl : l.length ≤ 1000000) (hm : m.length ≤ 1000000) (hr : Rd apE 3 w w.heap.size A l) (hs : Rd apE 3 w w.heap.size B m) :
    Calls Try.prog 18 #[.slice A l.length c, .slice B m.length d] w fun e w' => e = .returned (.bool (decide (l = m))) ∧ Below w.heap.size w w' := by
  by_cases h0 : l.length = m.length
  · have hne : ((l.length : Int) != (m.length : Int)) = false := by simp; omega
    have H0 := Lib.hid h0
    have HR := Lib.hid hr
    have HS := Lib.hid hs
    clear h0 hr hs
    go_enter Try.func18, Try.ntmps18
    go_wp2_with (fail)
    go_loopw [13] (fun iv wr => ∃ k : Nat, k ≤ l.length ∧ iv = .int .i64 k ∧ l.take k = m.take k ∧ Below w.heap.size w wr) (fun i _ => l.length - (intOf i).toNat)
    case atStart => exact ⟨0, by omega, rfl, rfl, Below.refl _ _⟩
    case round =>
      obtain ⟨k, hk, rfl, ht, hb⟩ := hrel
      have HT := Lib.hid ht
      have HB := Lib.hid hb
      clear ht hb
      by_cases hlt : k < l.length
      · have hlm : k < m.length := by have := H0.out; omega
        obtain ⟨⟨xm, xo, xt⟩, hx⟩ : ∃ x, l[k]? = some x := ⟨_, List.getElem?_eq_getElem hlt⟩
        obtain ⟨⟨ym, yo, yt⟩, hy⟩ : ∃ y, m[k]? = some y := ⟨_, List.getElem?_eq_getElem hlm⟩
        obtain ⟨b1, o1, rfl, hb1, hc1⟩ := HR.out.at_ HB.out hx
        obtain ⟨b2, o2, rfl, hb2, hc2⟩ := HS.out.at_ HB.out hy
        have HX := Lib.hid hx
        have HY := Lib.hid hy
        have l1 : b1 < wr.heap.size := by have := HB.out.size; omega
        have l2 : b2 < wr.heap.size := by have := HB.out.size; omega
        obtain ⟨p0, p1, p2⟩ := ap_cells hc1
        obtain ⟨q0, q1, q2⟩ := ap_cells hc2
        dsimp only at p0 p1 p2 q0 q1 q2
        have hg := guardAp
        clear hc1 hc2 hx hy
        by_cases he : (⟨xm, xo, xt⟩ : Apd) = ⟨ym, yo, yt⟩
        · have kn : ∀ w : World, (binOp .neq 43 (.agg #[.int .i64 xm, .string xo, .string xt]) (.agg #[.int .i64 ym, .string yo, .string yt])).run Try.prog w = .ok (.bool false) w := fun w => by rw [neqAp ⟨xm, xo, xt⟩ ⟨ym, yo, yt⟩ w, eqAp_iff, decide_eq_true he]; rfl
          have HE := Lib.hid he
          clear he
          go_wp2_with fail
          go_quiet (fail)
          go_wp2_with fail
          go_roundw
          case rel => exact ⟨k + 1, hlt, by simp, by rw [take_next HX.out, take_next HY.out, HT.out, HE.out], below_drewN HB.out _⟩
          case measure => simp [intOf]; omega
        · have kn : ∀ w : World, (binOp .neq 43 (.agg #[.int .i64 xm, .string xo, .string xt]) (.agg #[.int .i64 ym, .string yo, .string yt])).run Try.prog w = .ok (.bool true) w := fun w => by rw [neqAp ⟨xm, xo, xt⟩ ⟨ym, yo, yt⟩ w, eqAp_iff, decide_eq_false he]; rfl
          have HE := Lib.hid he
          clear he
          go_wp2_with fail
          go_quiet (fail)
          go_wp2_with fail
          go_ret
          have hlm2 : decide (l = m) = false := decide_eq_false (by
            rintro rfl
            exact HE.out (by have h1 := HX.out; have h2 := HY.out; rw [h1] at h2; injection h2))
          rw [hlm2]
          exact ⟨rfl, below_drewN HB.out _⟩
      · go_wp2_with fail
        go_ret
        have hlm2 : decide (l = m) = true := decide_eq_true (by
          have h1 := HT.out
          rwa [List.take_of_length_le (by omega), List.take_of_length_le (by have := H0.out; omega)] at h1)
        rw [hlm2]
        exact ⟨rfl, HB.out⟩
  · have hne : ((l.length : Int) != (m.length : Int)) = true := by simp; omega
    have hd : decide (l = m) = false := decide_eq_false (fun e => h0 (by rw [e]))
    have HD := Lib.hid hd
    clear h0 hd hr hs
    go_enter Try.func18, Try.ntmps18
    go_wp2_with fail
    go_ret
    rw [HD.out]
    exact ⟨rfl, Below.refl _ _⟩
theorem eq_i (A B : Option Addr) (c d : Nat) (l m : List Int) (w : World) (hl : l.length ≤ 1000000) (hm : m.length ≤ 1000000) (hr : Rd iE 1 w w.heap.size A l) (hs : Rd iE 1 w w.heap.size B m) :
    Calls Try.prog 19 #[.slice A l.length c, .slice B m.length d] w fun e w' => e = .returned (.bool (decide (l = m))) ∧ Below w.heap.size w w' := by
  by_cases h0 : l.length = m.length
  · have hne : ((l.length : Int) != (m.length : Int)) = false := by simp; omega
    have H0 := Lib.hid h0
    have HR := Lib.hid hr
    have HS := Lib.hid hs
    clear h0 hr hs
    go_enter Try.func19, Try.ntmps19
    go_wp2_with (fail)
    go_loopw [13] (fun iv wr => ∃ k : Nat, k ≤ l.length ∧ iv = .int .i64 k ∧ l.take k = m.take k ∧ Below w.heap.size w wr) (fun i _ => l.length - (intOf i).toNat)
    case atStart => exact ⟨0, by omega, rfl, rfl, Below.refl _ _⟩
    case round =>
      obtain ⟨k, hk, rfl, ht, hb⟩ := hrel
      have HT := Lib.hid ht
      have HB := Lib.hid hb
      clear ht hb
      by_cases hlt : k < l.length
      · have hlm : k < m.length := by have := H0.out; omega
        obtain ⟨x, hx⟩ : ∃ x, l[k]? = some x := ⟨_, List.getElem?_eq_getElem hlt⟩
        obtain ⟨y, hy⟩ : ∃ y, m[k]? = some y := ⟨_, List.getElem?_eq_getElem hlm⟩
        obtain ⟨b1, o1, rfl, hb1, hc1⟩ := HR.out.at_ HB.out hx
        obtain ⟨b2, o2, rfl, hb2, hc2⟩ := HS.out.at_ HB.out hy
        have HX := Lib.hid hx
        have HY := Lib.hid hy
        have l1 : b1 < wr.heap.size := by have := HB.out.size; omega
        have l2 : b2 < wr.heap.size := by have := HB.out.size; omega
        have p0 : wr.cell? ⟨b1, o1 + k, none⟩ = some (.int .i64 x) := by have := hc1 0 _ rfl; simpa using this
        have q0 : wr.cell? ⟨b2, o2 + k, none⟩ = some (.int .i64 y) := by have := hc2 0 _ rfl; simpa using this
        clear hc1 hc2 hx hy
        by_cases he : x = y
        · have kn : (x != y) = false := by simp [he]
          have HE := Lib.hid he
          clear he
          go_wp2_with fail
          go_quiet (fail)
          go_wp2_with fail
          go_roundw
          case rel => exact ⟨k + 1, hlt, by simp, by rw [take_next HX.out, take_next HY.out, HT.out, HE.out], below_drewN HB.out _⟩
          case measure => simp [intOf]; omega
        · have kn : (x != y) = true := by simp [he]
          have HE := Lib.hid he
          clear he
          go_wp2_with fail
          go_quiet (fail)
          go_wp2_with fail
          go_ret
          have hlm2 : decide (l = m) = false := decide_eq_false (by
            rintro rfl
            exact HE.out (by have h1 := HX.out; have h2 := HY.out; rw [h1] at h2; injection h2))
          rw [hlm2]
          exact ⟨rfl, below_drewN HB.out _⟩
      · go_wp2_with fail
        go_ret
        have hlm2 : decide (l = m) = true := decide_eq_true (by
          have h1 := HT.out
          rwa [List.take_of_length_le (by omega), List.take_of_length_le (by have := H0.out; omega)] at h1)
        rw [hlm2]
        exact ⟨rfl, HB.out⟩
  · have hne : ((l.length : Int) != (m.length : Int)) = true := by simp; omega
    have hd : decide (l = m) = false := decide_eq_false (fun e => h0 (by rw [e]))
    have HD := Lib.hid hd
    clear h0 hd hr hs
    go_enter Try.func19, Try.ntmps19
    go_wp2_with fail
    go_ret
    rw [HD.out]
    exact ⟨rfl, Below.refl _ _⟩
end Go.Proofs.Ytckbhdokfkabfaa
