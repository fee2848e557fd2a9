/-
  Chapter 58: slices.Equal at entries, at events and at clashes.
-/
import Derived.Test.YtdbiihfoafoljaaGreatDoorEnQ
import Derived.Test.YtdbiihfoafoljaaGreatDoorLib58
import Derived.Deep.MidRow
import Derived.BigQuiet
set_option linter.unusedSimpArgs false
set_option linter.unusedVariables false
namespace Go.Proofs.YtdbiihfoafoljaaGreatDoor
open Go.RowKit
set_option maxRecDepth 100000
set_option maxHeartbeats 4000000
attribute [-simp] Tryz.isAgg38 Tryz.sizeOf38 Tryz.isAgg40 Tryz.sizeOf40
theorem take_next8 {α : Type} {l : List α} {k : Nat} {x : α} (h : l[k]? = some x) : l.take (k + 1) = l.take k ++ [x] := by
  rw [List.take_add_one, h]; rfl
def SmR {α : Type} (w : World) (l m : List α) (i : Value) (wr : World) : Prop := ∃ k : Nat, k ≤ l.length ∧ i = .int .i64 k ∧ l.take k = m.take k ∧ Below w.heap.size w wr
theorem run_mid {P : Program} {w : World} {b o n : Nat} {xs : List Value} (hc : w.rangeAt b o xs) (hn : xs.length = n) : Sem.run P (loadCellsFrom ⟨b, o, none⟩ 0 n #[]) w = .ok xs.toArray w := by
  subst hn
  have := run_loadCells_list (P := P) w ⟨b, o, none⟩ xs (fun j v hv => by rw [Addr.add_mid]; exact hc j v hv)
  simpa [loadCells] using this
theorem rd_at {α : Type} {enc : α → List Value} {size : Nat} {w wr : World} {A : Option Addr} {l : List α} {k : Nat} {x : α} (h : Rd enc size w w.heap.size A l) (hb : Below w.heap.size w wr) (hx : l[k]? = some x) :
    ∃ b o, A = some ⟨b, o, none⟩ ∧ b < w.heap.size ∧ wr.rangeAt b (o + k * size) (enc x) := by
  obtain ⟨b, off, e, hl, hc⟩ := h k x hx
  exact ⟨b, off, e, hl, fun j v hv => (hb.cell (p := ⟨b, off + k * size + j, none⟩) hl).trans (hc j v hv)⟩
theorem guard_ev (op : BinOp) (x y : Operand) (xs ys : Array Value) (w : World) : (eqGuard op 38 x y (.agg xs) (.agg ys)).run Tryz.prog w = .ok () w := run_eqGuard_agg w op _ x y xs ys (by kernel_rfl)
theorem guard_en (op : BinOp) (x y : Operand) (xs ys : Array Value) (w : World) : (eqGuard op 40 x y (.agg xs) (.agg ys)).run Tryz.prog w = .ok () w := run_eqGuard_agg w op _ x y xs ys (by kernel_rfl)
theorem guard_cl (op : BinOp) (x y : Operand) (xs ys : Array Value) (w : World) : (eqGuard op 51 x y (.agg xs) (.agg ys)).run Tryz.prog w = .ok () w := run_eqGuard_agg w op _ x y xs ys (by kernel_rfl)
theorem cl_neq (a b : Int) (w : World) : (binOp .neq 51 (.agg (inE a).toArray) (.agg (inE b).toArray)).run Tryz.prog w = .ok (.bool (!decide (a = b))) w := by
  rw [run_neq_struct, run_equalIn_struct w 9999 51 _ _ (by kernel_rfl) (by kernel_rfl)]
  unfold inE
  simp [go_sem, Tryz.underlying51]
  by_cases h1 : a = b <;> simp [h1]
theorem cl_eql (a b : Int) (w : World) : (binOp .eql 51 (.agg (inE a).toArray) (.agg (inE b).toArray)).run Tryz.prog w = .ok (.bool (decide (a = b))) w := by
  rw [run_eql_struct, run_equalIn_struct w 9999 51 _ _ (by kernel_rfl) (by kernel_rfl)]
  unfold inE
  simp [go_sem, Tryz.underlying51]
  by_cases h1 : a = b <;> simp [h1]
theorem eq_ent (A B : Option Addr) (c d : Nat) (l m : List Ent) (w : World) (hl : l.length ≤ 1000000) (hm : m.length ≤ 1000000) (hr : Rd entE 21 w w.heap.size A l) (hs : Rd entE 21 w w.heap.size B m) :
    Calls Tryz.prog 10 #[.slice A l.length c, .slice B m.length d] w fun e w' => e = .returned (.bool (decide (l = m))) ∧ Below w.heap.size w w' := by
  by_cases h0 : l.length = m.length
  · have hne : ((l.length : Int) != (m.length : Int)) = false := by simp; omega
    have H0 := Lib.hid h0
    have HR := Lib.hid hr
    have HS := Lib.hid hs
    clear h0 hr hs
    go_enter Tryz.func10, Tryz.ntmps10
    go_wp2_with (fail)
    go_loopw [13] (SmR w l m) (fun i _ => l.length - (intOf i).toNat)
    case atStart => exact ⟨0, by omega, rfl, rfl, Below.refl _ _⟩
    case round =>
      obtain ⟨k, hk, rfl, ht, hb⟩ := hrel
      have HT := Lib.hid ht
      have HB := Lib.hid hb
      clear ht hb
      by_cases hlt : k < l.length
      · have hlm : k < m.length := by have := H0.out; omega
        obtain ⟨x, hx⟩ : ∃ x, l[k]? = some x := ⟨_, List.getElem?_eq_getElem hlt⟩
        obtain ⟨y, hy⟩ : ∃ y, m[k]? = some y := ⟨_, List.getElem?_eq_getElem hlm⟩
        obtain ⟨b1, o1, rfl, hb1, hc1⟩ := rd_at HR.out HB.out hx
        obtain ⟨b2, o2, rfl, hb2, hc2⟩ := rd_at HS.out HB.out hy
        have HX := Lib.hid hx
        have HY := Lib.hid hy
        obtain ⟨N, hN⟩ : ∃ N : Nat, 21 = N := ⟨_, rfl⟩
        have hA : ∀ w, Sem.run Tryz.prog (isAgg 40) w = .ok true w := fun w => Tryz.isAgg40 w
        have hZ : ∀ w, Sem.run Tryz.prog (sizeOf 40) w = .ok N w := fun w => by rw [← hN]; exact Tryz.sizeOf40 w
        have h19 : ((k : Int) * 21).toNat = k * 21 := by omega
        have l1 : b1 < wr.heap.size := by have := HB.out.size; omega
        have l2 : b2 < wr.heap.size := by have := HB.out.size; omega
        have hl1 : ∀ n, Sem.run Tryz.prog (loadCellsFrom ⟨b1, o1 + k * N, none⟩ 0 N #[]) (wr.drewN n) = .ok (entE x).toArray (wr.drewN n) := fun n => run_mid (fun j v hv => by rw [← hN]; simpa using hc1 j v hv) hN
        have hl2 : ∀ n, Sem.run Tryz.prog (loadCellsFrom ⟨b2, o2 + k * N, none⟩ 0 N #[]) (wr.drewN n) = .ok (entE y).toArray (wr.drewN n) := fun n => run_mid (fun j v hv => by rw [← hN]; simpa using hc2 j v hv) hN
        have p0 : wr.cell? ⟨b1, o1 + k * N, none⟩ = some (.int .i64 x.id) := by rw [← hN]; exact hc1 0 _ rfl
        have q0 : wr.cell? ⟨b2, o2 + k * N, none⟩ = some (.int .i64 y.id) := by rw [← hN]; exact hc2 0 _ rfl
        clear hN
        have hg := guard_en
        clear hc1 hc2 hx hy
        by_cases he : x = y
        · have kn : ∀ w : World, (binOp .neq 40 (.agg (entE x).toArray) (.agg (entE y).toArray)).run Tryz.prog w = .ok (.bool false) w := fun w => by rw [ent_neq]; simp [he]
          have HE := Lib.hid he
          clear he
          generalize (entE x).toArray = ax at *
          generalize (entE y).toArray = ay at *
          go_wp2_with fail
          go_quiet (fail)
          go_wp2
          go_roundw
          case rel => exact ⟨k + 1, hlt, by simp, by rw [take_next8 HX.out, take_next8 HY.out, HT.out, HE.out], below_drewN HB.out _⟩
          case measure => simp [intOf]; omega
        · have kn : ∀ w : World, (binOp .neq 40 (.agg (entE x).toArray) (.agg (entE y).toArray)).run Tryz.prog w = .ok (.bool true) w := fun w => by rw [ent_neq]; simp [he]
          have HE := Lib.hid he
          clear he
          generalize (entE x).toArray = ax at *
          generalize (entE y).toArray = ay at *
          go_wp2_with fail
          go_quiet (fail)
          go_wp2
          go_ret
          have hlm : decide (l = m) = false := decide_eq_false (by
            rintro rfl
            exact HE.out (by have h1 := HX.out; have h2 := HY.out; rw [h1] at h2; injection h2))
          rw [hlm]
          exact ⟨rfl, below_drewN HB.out _⟩
      · go_wp2_with fail
        go_ret
        have hk2 : k = l.length := by omega
        have := HT.out
        rw [hk2] at this
        have hlm : decide (l = m) = true := decide_eq_true (by
          rw [List.take_length, H0.out, List.take_length] at this
          exact this)
        rw [hlm]
        exact ⟨rfl, HB.out⟩
  · have hne : ((l.length : Int) != (m.length : Int)) = true := by simp; omega
    have hd : decide (l = m) = false := by simp; intro e; exact h0 (by rw [e])
    have HD := Lib.hid hd
    clear h0 hd hr hs
    go_enter Tryz.func10, Tryz.ntmps10
    go_wp2_with fail
    go_ret
    rw [HD.out]
    exact ⟨rfl, Below.refl _ _⟩
theorem eq_cl (A B : Option Addr) (c d : Nat) (l m : List Int) (w : World) (hl : l.length ≤ 1000000) (hm : m.length ≤ 1000000) (hr : Rd inE 1 w w.heap.size A l) (hs : Rd inE 1 w w.heap.size B m) :
    Calls Tryz.prog 17 #[.slice A l.length c, .slice B m.length d] w fun e w' => e = .returned (.bool (decide (l = m))) ∧ Below w.heap.size w w' := by
  by_cases h0 : l.length = m.length
  · have hne : ((l.length : Int) != (m.length : Int)) = false := by simp; omega
    have H0 := Lib.hid h0
    have HR := Lib.hid hr
    have HS := Lib.hid hs
    clear h0 hr hs
    go_enter Tryz.func17, Tryz.ntmps17
    go_wp2_with (fail)
    go_loopw [13] (SmR w l m) (fun i _ => l.length - (intOf i).toNat)
    case atStart => exact ⟨0, by omega, rfl, rfl, Below.refl _ _⟩
    case round =>
      obtain ⟨k, hk, rfl, ht, hb⟩ := hrel
      have HT := Lib.hid ht
      have HB := Lib.hid hb
      clear ht hb
      by_cases hlt : k < l.length
      · have hlm : k < m.length := by have := H0.out; omega
        obtain ⟨x, hx⟩ : ∃ x, l[k]? = some x := ⟨_, List.getElem?_eq_getElem hlt⟩
        obtain ⟨y, hy⟩ : ∃ y, m[k]? = some y := ⟨_, List.getElem?_eq_getElem hlm⟩
        obtain ⟨b1, o1, rfl, hb1, hc1⟩ := rd_at HR.out HB.out hx
        obtain ⟨b2, o2, rfl, hb2, hc2⟩ := rd_at HS.out HB.out hy
        have HX := Lib.hid hx
        have HY := Lib.hid hy
        have l1 : b1 < wr.heap.size := by have := HB.out.size; omega
        have l2 : b2 < wr.heap.size := by have := HB.out.size; omega
        have p0 : wr.cell? ⟨b1, o1 + k, none⟩ = some (.int .i64 x) := by have := hc1 0 _ rfl; simpa using this
        have q0 : wr.cell? ⟨b2, o2 + k, none⟩ = some (.int .i64 y) := by have := hc2 0 _ rfl; simpa using this
        have hg := guard_cl
        clear hc1 hc2 hx hy
        by_cases he : x = y
        · have kn : ∀ w : World, (binOp .neq 51 (.agg (inE x).toArray) (.agg (inE y).toArray)).run Tryz.prog w = .ok (.bool false) w := fun w => by rw [cl_neq]; simp [he]
          have HE := Lib.hid he
          clear he
          try simp only [inE] at kn
          go_wp2_with fail
          go_quiet (fail)
          go_wp2
          go_roundw
          case rel => exact ⟨k + 1, hlt, by simp, by rw [take_next8 HX.out, take_next8 HY.out, HT.out, HE.out], below_drewN HB.out _⟩
          case measure => simp [intOf]; omega
        · have kn : ∀ w : World, (binOp .neq 51 (.agg (inE x).toArray) (.agg (inE y).toArray)).run Tryz.prog w = .ok (.bool true) w := fun w => by rw [cl_neq]; simp [he]
          have HE := Lib.hid he
          clear he
          try simp only [inE] at kn
          go_wp2_with fail
          go_quiet (fail)
          go_wp2
          go_ret
          have hlm : decide (l = m) = false := decide_eq_false (by
            rintro rfl
            exact HE.out (by have h1 := HX.out; have h2 := HY.out; rw [h1] at h2; injection h2))
          rw [hlm]
          exact ⟨rfl, below_drewN HB.out _⟩
      · go_wp2_with fail
        go_ret
        have hk2 : k = l.length := by omega
        have := HT.out
        rw [hk2] at this
        have hlm : decide (l = m) = true := decide_eq_true (by
          rw [List.take_length, H0.out, List.take_length] at this
          exact this)
        rw [hlm]
        exact ⟨rfl, HB.out⟩
  · have hne : ((l.length : Int) != (m.length : Int)) = true := by simp; omega
    have hd : decide (l = m) = false := by simp; intro e; exact h0 (by rw [e])
    have HD := Lib.hid hd
    clear h0 hd hr hs
    go_enter Tryz.func17, Tryz.ntmps17
    go_wp2_with fail
    go_ret
    rw [HD.out]
    exact ⟨rfl, Below.refl _ _⟩
end Go.Proofs.YtdbiihfoafoljaaGreatDoor
