/-
  Chapter 49: the law's own comparison of two lists of fixtures.
-/
import Derived.Test.YthoocjcbpjdjhaaRows
import Derived.Test.YthoocjcbpjdjhaaSpec49
import Derived.Test.YthoocjcbpjdjhaaLeaf49
namespace Go.Proofs.Ythoocjcbpjdjhaa
open Go.RowKit

theorem eq_of_take {α : Type} {l m : List α} (hl : l.length = m.length) (h : l.take l.length = m.take l.length) : l = m := by
  rw [List.take_length, hl, List.take_length] at h; exact h

theorem neqFx (a b c a' b' c' : Int) (w : World) : (binOp .neq 37 (.agg #[.int .i64 a, .int .i64 b, .int .i64 c]) (.agg #[.int .i64 a', .int .i64 b', .int .i64 c'])).run Try.prog w = .ok (.bool (!decide ((⟨a, b, c⟩ : Fx) = ⟨a', b', c'⟩))) w := by
  rw [run_neq_struct, run_equalIn_struct w 9999 37 _ _ (by kernel_rfl) (by kernel_rfl)]
  simp [go_sem, Try.underlying37]
  by_cases h1 : a = a' <;> by_cases h2 : b = b' <;> by_cases h3 : c = c' <;> simp [h1, h2, h3]
theorem guardFx (op : BinOp) (x y : Operand) (xs ys : Array Value) (w : World) : (eqGuard op 37 x y (.agg xs) (.agg ys)).run Try.prog w = .ok () w := run_eqGuard_agg w op _ x y xs ys (by kernel_rfl)

set_option maxHeartbeats 1000000 in
theorem equal_any (A B : Option Addr) (c d : Nat) (l m : List Fx) (w : World) (hl : l.length ≤ 9223372036854775807) (hm : m.length ≤ 9223372036854775807) (hr : Rd fxE 3 w w.heap.size A l) (hs : Rd fxE 3 w w.heap.size B m) :
    Calls Try.prog 11 #[.slice A l.length c, .slice B m.length d] w fun e w' => e = .returned (.bool (decide (l = m))) ∧ Below w.heap.size w w' := by
  by_cases h0 : l.length = m.length
  · have hne : ((l.length : Int) != (m.length : Int)) = false := by simp; omega
    have H0 := Lib.hid h0
    clear h0
    go_enter Try.func11, Try.ntmps11
    go_wp2
    go_loopw [13] (IdxB w l.length (fun k => l.take k = m.take k)) (fun i _ => l.length - (intOf i).toNat)
    case atStart => exact IdxB.start (by simp)
    case round =>
      obtain ⟨k, hk, rfl, ht, hb⟩ := hrel
      have HT := Lib.hid ht
      clear ht
      by_cases hlt : k < l.length
      · have hlm : k < m.length := by have := H0.out; omega
        obtain ⟨x, hx⟩ : ∃ x, l[k]? = some x := ⟨_, List.getElem?_eq_getElem hlt⟩
        obtain ⟨y, hy⟩ : ∃ y, m[k]? = some y := ⟨_, List.getElem?_eq_getElem hlm⟩
        obtain ⟨b, off, rfl, hbb, c0, c1, c2⟩ := rdFx hr hb hx
        obtain ⟨b', off', rfl, hbb', c0', c1', c2'⟩ := rdFx hs hb hy
        have HX := Lib.hid hx
        have HY := Lib.hid hy
        have HB := Lib.hid hb
        obtain ⟨xr, xh, xa⟩ := x
        obtain ⟨yr, yh, ya⟩ := y
        clear hx hy hb
        have hn := neqFx xr xh xa yr yh ya
        have hg := guardFx
        by_cases he : (⟨xr, xh, xa⟩ : Fx) = ⟨yr, yh, ya⟩
        · have hd : (decide ((⟨xr, xh, xa⟩ : Fx) = ⟨yr, yh, ya⟩)) = true := by simpa using he
          have HE := Lib.hid he
          have HD := Lib.hid hd
          have hn2 : ∀ w, _ := fun w => (hn w).trans (by rw [HD.out])
          clear he hd hn
          go_wp2_with fail
          go_quiet (fail)
          go_wp2
          go_roundw
          case rel => exact IdxB.next (below_drewN HB.out _) hlt (by show l.take (k + 1) = m.take (k + 1); rw [take_next HX.out, take_next HY.out, HT.out, HE.out])
          case measure => simp [intOf]; omega
        · have hd : (decide ((⟨xr, xh, xa⟩ : Fx) = ⟨yr, yh, ya⟩)) = false := by simpa using he
          have HE := Lib.hid he
          have HD := Lib.hid hd
          have hn2 : ∀ w, _ := fun w => (hn w).trans (by rw [HD.out])
          clear he hd hn
          go_wp2_with fail
          go_quiet (fail)
          go_wp2
          go_ret
          refine ⟨ret_bool (Eq.symm (decide_eq_false ?_)), below_drewN HB.out _⟩
          rintro rfl
          exact HE.out (by have h1 := HX.out; have h2 := HY.out; rw [h1] at h2; injection h2)
      · go_wp2
        go_ret
        refine ⟨ret_bool ?_, hb⟩
        have hk2 : k = l.length := by omega
        have := HT.out
        rw [hk2] at this
        simp [eq_of_take H0.out this]
  · have hne : ((l.length : Int) != (m.length : Int)) = true := by simp; omega
    have hd : decide (l = m) = false := by simp; intro e; exact h0 (by rw [e])
    have HD := Lib.hid hd
    clear h0 hd
    go_enter Try.func11, Try.ntmps11
    go_wp2
    go_ret
    exact ⟨ret_bool HD.out.symm, Below.refl _ _⟩
end Go.Proofs.Ythoocjcbpjdjhaa
