/-
  Chapter 55: the days of an umpire, and who may stand: both sides.
-/
import Derived.Test.YtckbhdokfkabfaaSp55
set_option linter.unusedSimpArgs false
set_option linter.unusedVariables false
namespace Go.Proofs.Ytckbhdokfkabfaa
open Go.RowKit
set_option maxRecDepth 100000
set_option maxHeartbeats 2000000
theorem isDay_p (n : Int) (v : Bool) (w : World) (hv : isDayB n = v) : Calls Try.prog 51 #[.int .i64 n] w fun e w' => e = .returned (.bool v) ∧ w = w' := by
  have HV := Lib.hid hv
  clear hv
  go_enter Try.func51, Try.ntmps51
  go_wp2
  all_goals
    go_ret
    exact ⟨ret_bool (by rw [← HV.out]; simp [isDayB] <;> omega), rfl⟩
theorem day_r (n : Int) (v : Bool) (w : World) (hv : isDayB n = v) : Calls Try.prog 53 #[.int .i64 n] w fun e w' => e = .returned (.bool v) ∧ w = w' := by
  have HV := Lib.hid hv
  clear hv
  go_enter Try.func53, Try.ntmps53
  go_wp2
  all_goals
    go_ret
    exact ⟨ret_bool (by rw [← HV.out]; simp [isDayB] <;> omega), rfl⟩
theorem rdi_at {w wr : World} {A : Option Addr} {l : List Int} {k : Nat} {x : Int} (h : Rd iE 1 w w.heap.size A l) (hb : Below w.heap.size w wr) (hx : l[k]? = some x) :
    ∃ b off, A = some ⟨b, off, none⟩ ∧ b < w.heap.size ∧ wr.cell? ⟨b, off + k, none⟩ = some (.int .i64 x) := by
  obtain ⟨b, off, e, hbl, hc⟩ := h.at_ hb hx
  exact ⟨b, off, e, hbl, by simpa using hc 0 _ rfl⟩
theorem index_i (A : Option Addr) (c : Nat) (l : List Int) (n : Int) (v : Bool) (w : World) (hl : l.length ≤ 1000000) (hr : Rd iE 1 w w.heap.size A l) (hv : (l.any fun x => x == n) = v) :
    Calls Try.prog 50 #[.slice A l.length c, .int .i64 n] w fun e w' => ∃ r, e = .returned (.int .i64 r) ∧ decide (0 ≤ r) = v ∧ w = w' := by
  have HV := Lib.hid hv
  have HR := Lib.hid hr
  clear hr hv
  go_enter Try.func50, Try.ntmps50
  go_wp2
  go_loopw [8] (fun i wr => ∃ k : Nat, k ≤ l.length ∧ i = .int .i64 k ∧ (∀ j x, j < k → l[j]? = some x → x ≠ n) ∧ w = wr) (fun i _ => l.length - (intOf i).toNat)
  case atStart => exact ⟨0, by simp, rfl, by intro j x h; omega, rfl⟩
  case round =>
    obtain ⟨k, hk, rfl, hno, rfl⟩ := hrel
    have HNO := Lib.hid hno
    clear hno
    by_cases hlt2 : k < l.length
    · obtain ⟨x, hx⟩ : ∃ x, l[k]? = some x := ⟨_, List.getElem?_eq_getElem hlt2⟩
      obtain ⟨b, off, rfl, hbb, c0⟩ := rdi_at HR.out (Below.refl _ _) hx
      have HX := Lib.hid hx
      clear hx
      by_cases hi : n = x
      · have HI := Lib.hid hi
        have hd : (n == x) = true := by simp [hi]
        clear hi
        go_wp2
        go_ret
        exact ⟨_, rfl, by rw [← HV.out, List.any_eq_true.2 ⟨x, List.mem_of_getElem? HX.out, by simp [HI.out]⟩]; simp, rfl⟩
      · have HI := Lib.hid hi
        have hd : (n == x) = false := by simp [hi]
        clear hi
        go_wp2
        go_roundw
        case rel =>
          refine ⟨k + 1, hlt2, by simp, fun j y hj hy => ?_, trivial⟩
          by_cases e : j = k
          · subst e
            rw [HX.out] at hy
            injection hy with hy
            rw [← hy]; exact fun e => HI.out e.symm
          · exact HNO.out j y (by omega) hy
        case measure => simp [intOf]; omega
    · have hke := Lib.hid (show k = l.length by omega)
      go_wp2
      go_ret
      refine ⟨_, rfl, ?_, rfl⟩
      rw [← HV.out]
      have : (l.any fun x => x == n) = false := by
        rw [List.any_eq_false]
        intro x hx
        obtain ⟨j, hj, rfl⟩ := List.getElem_of_mem hx
        have := HNO.out j _ (by have := hke.out; omega) (List.getElem?_eq_getElem hj)
        simpa using this
      rw [this]
      rfl
theorem cont_i (A : Option Addr) (c : Nat) (l : List Int) (n : Int) (v : Bool) (w : World) (hl : l.length ≤ 1000000) (hr : Rd iE 1 w w.heap.size A l) (hv : (l.any fun x => x == n) = v) :
    Calls Try.prog 26 #[.slice A l.length c, .int .i64 n] w fun e w' => e = .returned (.bool v) ∧ w = w' := by
  have HV := Lib.hid hv
  have HR := Lib.hid hr
  clear hr hv
  go_enter Try.func26, Try.ntmps26
  go_wp2_with fail
  refine (index_i A c l n v w hl HR.out HV.out).mono ?_
  rintro e w1 ⟨r, rfl, hd, rfl⟩
  have HD := Lib.hid hd
  clear hd
  go_wp2_with fail
  go_ret
  exact ⟨ret_bool (by rw [← HD.out]), rfl⟩
/-- The two boxes of the parameters. -/
theorem may_box (w : World) (x : Dty) (y : Ump) (W : World) (hW : ((w.alloc (.cells (dtE x).toArray 29)).alloc (.cells (umE y).toArray 32)) = W) :
    (W.cell? ⟨w.heap.size, 1, none⟩ = some (.int .i64 x.d) ∧ W.cell? ⟨w.heap.size, 2, none⟩ = some (.string x.h) ∧ W.cell? ⟨w.heap.size, 3, none⟩ = some (.string x.a)) ∧
    (W.cell? ⟨w.heap.size + 1, 1, none⟩ = some (.string y.tm) ∧ W.cell? ⟨w.heap.size + 1, 2, none⟩ = some (.slice y.a y.ds.length y.c)) ∧ Below w.heap.size w W ∧ w.heap.size + 1 < W.heap.size := by
  have h1 : Blk W w.heap.size 29 (dtE x) := by rw [← hW]; exact (Blk.new w _ _).to (cur_new _ _)
  have h2 : Blk W (w.heap.size + 1) 32 (umE y) := by rw [← hW]; exact two_new w _ _
  exact ⟨⟨h1.cell 1, h1.cell 2, h1.cell 3⟩, ⟨h2.cell 1, h2.cell 2⟩, by rw [← hW]; exact cur_two w _ _, h2.lt⟩
theorem may_p (x : Dty) (y : Ump) (v : Bool) (w : World) (hl : y.ds.length ≤ 1000000) (hr : Rd iE 1 w w.heap.size y.a y.ds) (hv : mayB x y = v) :
    Calls Try.prog 12 #[.agg (dtE x).toArray, .agg (umE y).toArray] w fun e w' => e = .returned (.bool v) ∧ Below w.heap.size w w' := by
  have HR := Lib.hid hr
  clear hr
  obtain ⟨W, hW⟩ : ∃ W, ((w.alloc (.cells (dtE x).toArray 29)).alloc (.cells (umE y).toArray 32)) = W := ⟨_, rfl⟩
  obtain ⟨⟨a1, a2, a3⟩, ⟨b1, b2⟩, hb, hlt⟩ := may_box w x y W hW
  have HB := Lib.hid hb
  have SW := Lib.hid hW
  clear hW hb
  have es := isE_to y.tm
  have e1 := seq_to y.tm x.h
  have e2 := seq_to y.tm x.a
  obtain ⟨q, hq⟩ : ∃ q, (y.ds.any fun n => n == x.d) = q := ⟨_, rfl⟩
  have HQ := Lib.hid hq
  have HV := Lib.hid (show (q && (isE y.tm || (!seq y.tm x.h && !seq y.tm x.a))) = v by rw [← hv, ← hq]; rfl)
  clear hq hv
  go_enter Try.func12, Try.ntmps12
  go_upto_region 1 with (fail)
  change Code.wp _ _ _ _ ((w.alloc (.cells (dtE x).toArray 29)).alloc (.cells (umE y).toArray 32))
  rw [SW.out]
  cases q
  · go_wp2_with (go_at_call 26; refine (cont_i y.a y.c y.ds x.d false W hl (HR.out.to HB.out) HQ.out).mono ?_; rintro e w1 ⟨rfl, rfl⟩)
    go_ret
    exact ⟨ret_bool (by rw [← HV.out]; rfl), HB.out⟩
  · cases h1 : isE y.tm <;> cases h2 : seq y.tm x.h <;> cases h3 : seq y.tm x.a <;> rw [h1] at es <;> rw [h2] at e1 <;> rw [h3] at e2
    all_goals
      have H1 := Lib.hid h1
      have H2 := Lib.hid h2
      have H3 := Lib.hid h3
      clear h1 h2 h3
      go_wp2_with (go_at_call 26; refine (cont_i y.a y.c y.ds x.d true W hl (HR.out.to HB.out) HQ.out).mono ?_; rintro e w1 ⟨rfl, rfl⟩)
      go_ret
      exact ⟨ret_bool (by rw [← HV.out, H1.out, H2.out, H3.out]; rfl), HB.out⟩
theorem may_r (x : Dty) (y : Ump) (v : Bool) (w : World) (hl : y.ds.length ≤ 1000000) (hr : Rd iE 1 w w.heap.size y.a y.ds) (hv : mayB x y = v) :
    Calls Try.prog 13 #[.agg (dtE x).toArray, .agg (umE y).toArray] w fun e w' => e = .returned (.bool v) ∧ Below w.heap.size w w' := by
  have HR := Lib.hid hr
  clear hr
  obtain ⟨W, hW⟩ : ∃ W, ((w.alloc (.cells (dtE x).toArray 29)).alloc (.cells (umE y).toArray 32)) = W := ⟨_, rfl⟩
  obtain ⟨⟨a1, a2, a3⟩, ⟨b1, b2⟩, hb, hlt⟩ := may_box w x y W hW
  have HB := Lib.hid hb
  have SW := Lib.hid hW
  clear hW hb
  have es := isE_to y.tm
  have e1 := seq_to y.tm x.h
  have e2 := seq_to y.tm x.a
  obtain ⟨q, hq⟩ : ∃ q, (y.ds.any fun n => n == x.d) = q := ⟨_, rfl⟩
  have HQ := Lib.hid hq
  have HV := Lib.hid (show (q && (isE y.tm || (!seq y.tm x.h && !seq y.tm x.a))) = v by rw [← hv, ← hq]; rfl)
  clear hq hv
  go_enter Try.func13, Try.ntmps13
  go_upto_region 1 with (fail)
  change Code.wp _ _ _ _ ((w.alloc (.cells (dtE x).toArray 29)).alloc (.cells (umE y).toArray 32))
  rw [SW.out]
  cases h1 : isE y.tm <;> cases h2 : seq y.tm x.h <;> cases h3 : seq y.tm x.a <;> rw [h1] at es <;> rw [h2] at e1 <;> rw [h3] at e2
  all_goals
    have H1 := Lib.hid h1
    have H2 := Lib.hid h2
    have H3 := Lib.hid h3
    clear h1 h2 h3
    go_wp2_with (fail)
    first
    | (go_ret; exact ⟨ret_bool (by rw [← HV.out, H1.out, H2.out, H3.out]; cases q <;> rfl), HB.out⟩)
    | go_loopw [27] (fun i wr => ∃ k : Nat, k ≤ y.ds.length ∧ i = .int .i64 k ∧ (∀ j z, j < k → y.ds[j]? = some z → z ≠ x.d) ∧ W = wr) (fun i _ => y.ds.length - (intOf i).toNat)
      case atStart => exact ⟨0, by simp, rfl, by intro j x h; omega, rfl⟩
      case round =>
        obtain ⟨k, hk, rfl, hno, rfl⟩ := hrel
        have HNO := Lib.hid hno
        clear hno
        by_cases hlt2 : k < y.ds.length
        · obtain ⟨z, hz⟩ : ∃ z, y.ds[k]? = some z := ⟨_, List.getElem?_eq_getElem hlt2⟩
          obtain ⟨b, off, hA, hbb, c0⟩ := rdi_at HR.out HB.out hz
          rw [hA] at b2
          have HZ := Lib.hid hz
          clear hz
          by_cases hi : z = x.d
          · have HI := Lib.hid hi
            have hd : (z == x.d) = true := by simp [hi]
            clear hi
            rw [hA]
            go_wp2
            go_ret
            exact ⟨ret_bool (by rw [← HV.out, ← HQ.out, List.any_eq_true.2 ⟨z, List.mem_of_getElem? HZ.out, by simp [HI.out]⟩, H1.out, H2.out, H3.out]; rfl), HB.out⟩
          · have HI := Lib.hid hi
            have hd : (z == x.d) = false := by simp [hi]
            clear hi
            rw [hA]
            go_wp2
            go_roundw
            case rel =>
              refine ⟨k + 1, hlt2, by simp, fun j u hj hu => ?_, trivial⟩
              by_cases e : j = k
              · subst e
                rw [HZ.out] at hu
                injection hu with hu
                rw [← hu]; exact HI.out
              · exact HNO.out j u (by omega) hu
            case measure => simp [intOf]; omega
        · have hke := Lib.hid (show k = y.ds.length by omega)
          go_wp2
          go_ret
          refine ⟨ret_bool ?_, HB.out⟩
          rw [← HV.out, ← HQ.out]
          have : (y.ds.any fun n => n == x.d) = false := by
            rw [List.any_eq_false]
            intro z hz
            obtain ⟨j, hj, rfl⟩ := List.getElem_of_mem hz
            have := HNO.out j _ (by have := hke.out; omega) (List.getElem?_eq_getElem hj)
            simpa using this
          rw [this]
          rfl
end Go.Proofs.Ytckbhdokfkabfaa
