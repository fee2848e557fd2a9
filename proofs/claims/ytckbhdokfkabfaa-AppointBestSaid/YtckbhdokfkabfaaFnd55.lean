/-
  Chapter 55: finding umpires by name on both sides; EqualFunc with Accept's closure.
-/
import Derived.Test.YtckbhdokfkabfaaIx55
set_option linter.unusedSimpArgs false
set_option linter.unusedVariables false
namespace Go.Proofs.Ytckbhdokfkabfaa
open Go.RowKit
set_option maxRecDepth 100000
set_option maxHeartbeats 4000000
/-- The place of an umpire's name, -1 if there is none. -/
def fnd (U : List Ump) (s : ByteArray) : Int := fidx (fun y : Ump => seq y.nm s) U
theorem lit3_p (y : Ump) (s : ByteArray) (g : Nat) (v : Bool) (w : World) (hg : w.cell? ⟨g, 0, none⟩ = some (.string s)) (hgl : g < w.heap.size) (hv : seq y.nm s = v) :
    Calls Try.prog 64 #[.agg (umE y).toArray, .pointer (some ⟨g, 0, none⟩)] w fun e w' => e = .returned (.bool v) ∧ Below w.heap.size w w' := by
  obtain ⟨yn, yt, ys, yA, yc⟩ := y
  simp only [umE]
  dsimp only at hv
  have es := seq_to yn s
  rw [hv] at es
  clear hv
  go_enter Try.func64, Try.ntmps64
  cases v
  all_goals
    go_wp2_with fail
    go_ret
    exact ⟨rfl, cur_new w _⟩
theorem idx3_p (A : Option Addr) (c : Nat) (l : List Ump) (s : ByteArray) (g : Nat) (w : World) (hl : l.length ≤ 1000000) (hr : Rd umE 3 w w.heap.size A l) (hg : w.cell? ⟨g, 0, none⟩ = some (.string s)) (hgl : g < w.heap.size) :
    Calls Try.prog 63 #[.slice A l.length c, .func (.func 64) #[] #[.pointer (some ⟨g, 0, none⟩)]] w fun e w' => e = .returned (.int .i64 (fnd l s)) ∧ Below w.heap.size w w' := by
  have HR := Lib.hid hr
  have HC := Lib.hid (fun (x : Ump) w' (h : Below w.heap.size w w') => lit3_p x s g _ w' ((h.cell (p := ⟨g, 0, none⟩) hgl).trans hg) (Nat.lt_of_lt_of_le hgl h.size) rfl)
  clear hr hg
  go_enter Try.func63, Try.ntmps63
  go_wp2
  go_loopw [8] (fun i wr => ∃ k : Nat, k ≤ l.length ∧ i = .int .i64 k ∧ (∀ (j : Nat) (x : Ump), j < k → l[j]? = some x → seq x.nm s = false) ∧ Below w.heap.size w wr) (fun i _ => l.length - (intOf i).toNat)
  case atStart => exact ⟨0, by simp, rfl, by intro j x h; omega, Below.refl _ _⟩
  case round =>
    obtain ⟨k, hk, rfl, hno, hB⟩ := hrel
    have HNO := Lib.hid hno
    have HB := Lib.hid hB
    clear hno hB
    by_cases hlt2 : k < l.length
    · obtain ⟨x, hx⟩ : ∃ x, l[k]? = some x := ⟨_, List.getElem?_eq_getElem hlt2⟩
      obtain ⟨b, off, rfl, hbb, hcl⟩ := HR.out.at_ HB.out hx
      obtain ⟨c0, c1, c2⟩ := um_cells hcl
      have HX := Lib.hid hx
      have HCX := Lib.hid (HC.out x wr HB.out)
      clear hcl hx
      obtain ⟨v, hv⟩ : ∃ v, seq x.nm s = v := ⟨_, rfl⟩
      rw [hv] at HCX
      have HI := Lib.hid hv
      clear hv
      obtain ⟨xn, xt, xs, xA, xc⟩ := x
      dsimp only at c0 c1 c2
      simp only [umE] at HCX
      cases v
      · go_wp2_with (go_at_call 64; refine HCX.out.mono ?_; rintro e w1 ⟨rfl, hb1⟩)
        go_roundw
        case rel =>
          refine ⟨k + 1, hlt2, by simp, fun j y hj hy => ?_, cur_step1 HB.out hb1⟩
          by_cases e : j = k
          · subst e
            rw [HX.out] at hy
            injection hy with hy
            rw [← hy]; exact HI.out
          · exact HNO.out j y (by omega) hy
        case measure => simp [intOf]; omega
      · go_wp2_with (go_at_call 64; refine HCX.out.mono ?_; rintro e w1 ⟨rfl, hb1⟩)
        go_ret
        exact ⟨ret_int (fidx_some HX.out HI.out HNO.out).symm, cur_step1 HB.out hb1⟩
    · have hke : k = l.length := by omega
      have HNN := Lib.hid (show fnd l s = -1 from fidx_none (fun j y hj hy => HNO.out j y (by omega) hy))
      go_wp2
      go_ret
      exact ⟨ret_int HNN.out.symm, HB.out⟩
theorem find_p (A : Option Addr) (c : Nat) (l : List Ump) (s : ByteArray) (r : Int) (w : World) (hl : l.length ≤ 1000000) (hr : Rd umE 3 w w.heap.size A l) (hv : fnd l s = r) :
    Calls Try.prog 48 #[.slice A l.length c, .string s] w fun e w' => e = .returned (.int .i64 r) ∧ Below w.heap.size w w' := by
  have k2 := Blk.new w 9 [.string s]
  have h2 := cur_new w (.cells #[.string s] 9)
  have HC := Lib.hid (idx3_p A c l s w.heap.size (w.alloc (.cells #[.string s] 9)) hl (hr.to h2) (k2.cell 0) k2.lt)
  rw [hv] at HC
  clear hr hv k2 h2
  go_enter Try.func48, Try.ntmps48
  go_wp2_with (go_at_call 63; refine HC.out.mono ?_; rintro e w1 ⟨rfl, hb1⟩)
  go_ret
  exact ⟨rfl, cur_step0 hb1⟩
theorem find_r (A : Option Addr) (c : Nat) (l : List Ump) (s : ByteArray) (r : Int) (w : World) (hl : l.length ≤ 1000000) (hr : Rd umE 3 w w.heap.size A l) (hv : fnd l s = r) :
    Calls Try.prog 49 #[.slice A l.length c, .string s] w fun e w' => e = .returned (.int .i64 r) ∧ Below w.heap.size w w' := by
  have HR := Lib.hid hr
  have HV := Lib.hid hv
  clear hr hv
  go_enter Try.func49, Try.ntmps49
  go_wp2
  go_loopw [9] (fun i wr => ∃ k : Nat, k ≤ l.length ∧ i = .int .i64 k ∧ (∀ (j : Nat) (x : Ump), j < k → l[j]? = some x → seq x.nm s = false) ∧ Below w.heap.size w wr) (fun i _ => l.length - (intOf i).toNat)
  case atStart => exact ⟨0, by simp, rfl, by intro j x h; omega, Below.refl _ _⟩
  case round =>
    obtain ⟨k, hk, rfl, hno, hB⟩ := hrel
    have HNO := Lib.hid hno
    have HB := Lib.hid hB
    clear hno hB
    by_cases hlt2 : k < l.length
    · obtain ⟨x, hx⟩ : ∃ x, l[k]? = some x := ⟨_, List.getElem?_eq_getElem hlt2⟩
      obtain ⟨b, off, rfl, hbb, hcl⟩ := HR.out.at_ HB.out hx
      obtain ⟨c0, c1, c2⟩ := um_cells hcl
      have HX := Lib.hid hx
      have hbw : b < wr.heap.size := Nat.lt_of_lt_of_le hbb HB.out.size
      clear hcl hx
      obtain ⟨v, hv⟩ : ∃ v, seq x.nm s = v := ⟨_, rfl⟩
      have HI := Lib.hid hv
      have es := seq_to x.nm s
      rw [hv] at es
      clear hv
      obtain ⟨xn, xt, xs, xA, xc⟩ := x
      dsimp only at c0 c1 c2 es
      have HBN := Lib.hid (cur_step1 HB.out (cur_new wr (.cells #[.string xn, .string xt, .slice xA xs.length xc] 32)))
      cases v
      · go_wp2_with fail
        go_roundw
        case rel =>
          refine ⟨k + 1, hlt2, by simp, fun j y hj hy => ?_, HBN.out⟩
          by_cases e : j = k
          · subst e
            rw [HX.out] at hy
            injection hy with hy
            rw [← hy]; exact HI.out
          · exact HNO.out j y (by omega) hy
        case measure => simp [intOf]; omega
      · have HE := Lib.hid (show (k : Int) = r by rw [← HV.out]; exact (fidx_some HX.out HI.out HNO.out).symm)
        go_wp2_with fail
        go_ret
        exact ⟨ret_int HE.out, HBN.out⟩
    · have hke : k = l.length := by omega
      have HE := Lib.hid (show (-1 : Int) = r by rw [← HV.out]; exact (fidx_none (fun j y hj hy => HNO.out j y (by omega) hy)).symm)
      go_wp2
      go_ret
      exact ⟨ret_int HE.out, HB.out⟩
theorem lit4_p (x : Dty) (y : Apd) (v : Bool) (w : World) (hv : (x.m == y.m) = v) :
    Calls Try.prog 47 #[.agg (dtE x).toArray, .agg (apE y).toArray] w fun e w' => e = .returned (.bool v) ∧ Below w.heap.size w w' := by
  obtain ⟨xm, xd, xh, xa⟩ := x
  obtain ⟨ym, yo, yt⟩ := y
  simp only [dtE, apE]
  dsimp only at hv
  have h1 : Blk ((w.alloc (.cells #[.int .i64 xm, .int .i64 xd, .string xh, .string xa] 29)).alloc (.cells #[.int .i64 ym, .string yo, .string yt] 43)) w.heap.size 29 [.int .i64 xm, .int .i64 xd, .string xh, .string xa] := (Blk.new w _ _).to (cur_new _ _)
  have h2 : Blk ((w.alloc (.cells #[.int .i64 xm, .int .i64 xd, .string xh, .string xa] 29)).alloc (.cells #[.int .i64 ym, .string yo, .string yt] 43)) (w.heap.size + 1) 43 [.int .i64 ym, .string yo, .string yt] := two_new w _ _
  have hb : Below w.heap.size w ((w.alloc (.cells #[.int .i64 xm, .int .i64 xd, .string xh, .string xa] 29)).alloc (.cells #[.int .i64 ym, .string yo, .string yt] 43)) := cur_two w _ _
  obtain ⟨W, hW⟩ : ∃ W, ((w.alloc (.cells #[.int .i64 xm, .int .i64 xd, .string xh, .string xa] 29)).alloc (.cells #[.int .i64 ym, .string yo, .string yt] 43)) = W := ⟨_, rfl⟩
  rw [hW] at h1 h2 hb
  have SW := Lib.hid hW
  have HB := Lib.hid hb
  have d0 : W.cell? ⟨w.heap.size, 0, none⟩ = some (.int .i64 xm) := h1.cell 0
  have d1 : W.cell? ⟨w.heap.size + 1, 0, none⟩ = some (.int .i64 ym) := h2.cell 0
  clear hW hb h1 h2
  have HV := Lib.hid hv
  clear hv
  go_enter Try.func47, Try.ntmps47
  go_upto_region 1 with (fail)
  change Code.wp _ _ _ _ ((w.alloc (.cells #[.int .i64 xm, .int .i64 xd, .string xh, .string xa] 29)).alloc (.cells #[.int .i64 ym, .string yo, .string yt] 43))
  rw [SW.out]
  go_wp2_with fail
  all_goals
    go_ret
    exact ⟨ret_bool (by first | exact HV.out | (rw [← HV.out]; done) | (rw [← HV.out]; rfl) | (rw [← HV.out]; simp)), HB.out⟩
end Go.Proofs.Ytckbhdokfkabfaa
