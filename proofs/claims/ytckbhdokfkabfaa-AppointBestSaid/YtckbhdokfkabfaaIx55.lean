/-
  Chapter 55: finding: IndexFunc with the closures of Refutes, ContainsFunc, the reference's index.
-/
import Derived.Test.YtckbhdokfkabfaaLf55
import Derived.Test.YtckbhdokfkabfaaCk55
set_option linter.unusedSimpArgs false
set_option linter.unusedVariables false
namespace Go.Proofs.Ytckbhdokfkabfaa
open Go.RowKit
set_option maxRecDepth 100000
set_option maxHeartbeats 4000000
/-- The first place, -1 if there is none. -/
def fidx {α : Type} (f : α → Bool) (l : List α) : Int := match l.findIdx? f with
  | some k => k
  | none => -1
theorem fidx_some {α : Type} {f : α → Bool} {l : List α} {k : Nat} {x : α} (h : l[k]? = some x) (hx : f x = true) (hno : ∀ j y, j < k → l[j]? = some y → f y = false) : fidx f l = k := by
  obtain ⟨hk, rfl⟩ := List.getElem?_eq_some_iff.1 h
  have : l.findIdx? f = some k := List.findIdx?_eq_some_iff_getElem.2 ⟨hk, hx, fun j hj => by simpa using hno j _ hj (List.getElem?_eq_getElem (by omega))⟩
  unfold fidx
  rw [this]
theorem fidx_none {α : Type} {f : α → Bool} {l : List α} (hno : ∀ j y, j < l.length → l[j]? = some y → f y = false) : fidx f l = -1 := by
  have : l.findIdx? f = none := List.findIdx?_eq_none_iff.2 fun x hx => by
    obtain ⟨j, hj, rfl⟩ := List.getElem_of_mem hx
    simpa using hno j _ hj (List.getElem?_eq_getElem hj)
  unfold fidx
  rw [this]
theorem fidx_at {α : Type} {f : α → Bool} {l : List α} (h : 0 ≤ fidx f l) : ∃ (k : Nat) (x : α), fidx f l = k ∧ l[k]? = some x ∧ f x = true := by
  unfold fidx at h ⊢
  cases e : l.findIdx? f with
  | none => rw [e] at h; exact absurd h (by decide)
  | some k =>
    obtain ⟨hk, hx, _⟩ := List.findIdx?_eq_some_iff_getElem.1 e
    exact ⟨k, _, rfl, List.getElem?_eq_getElem hk, hx⟩
theorem fidx_any {α : Type} {f : α → Bool} {l : List α} : decide (0 ≤ fidx f l) = l.any f := by
  unfold fidx
  cases e : l.findIdx? f with
  | none =>
    have := List.findIdx?_eq_none_iff.1 e
    rw [show l.any f = false from List.any_eq_false.2 fun x hx => by simpa using this x hx]
    rfl
  | some k =>
    obtain ⟨hk, hx, _⟩ := List.findIdx?_eq_some_iff_getElem.1 e
    rw [show l.any f = true from List.any_eq_true.2 ⟨_, List.getElem_mem hk, hx⟩]
    simp
theorem lit1_p (x : Dty) (n : Int) (g : Nat) (v : Bool) (w : World) (hg : w.cell? ⟨g, 0, none⟩ = some (.int .i64 n)) (hgl : g < w.heap.size) (hv : (x.m == n) = v) :
    Calls Try.prog 41 #[.agg (dtE x).toArray, .pointer (some ⟨g, 0, none⟩)] w fun e w' => e = .returned (.bool v) ∧ Below w.heap.size w w' := by
  obtain ⟨xm, xd, xh, xa⟩ := x
  simp only [dtE]
  have HV := Lib.hid hv
  clear hv
  go_enter Try.func41, Try.ntmps41
  go_wp2_with fail
  all_goals
    go_ret
    exact ⟨ret_bool (by first | exact HV.out | (rw [← HV.out]; done) | (rw [← HV.out]; rfl) | (rw [← HV.out]; simp)), cur_new w _⟩
theorem lit2_p (x : Dty) (y : Ump) (g : Nat) (v : Bool) (w : World) (hk : Blk w g 32 (umE y)) (hl : y.ds.length ≤ 1000000) (hr : Rd iE 1 w w.heap.size y.a y.ds) (hv : mayB x y = v) :
    Calls Try.prog 43 #[.agg (dtE x).toArray, .pointer (some ⟨g, 0, none⟩)] w fun e w' => e = .returned (.bool v) ∧ Below w.heap.size w w' := by
  have HK := Lib.hid (hk.to (cur_new w (.cells (dtE x).toArray 29)))
  have HX := Lib.hid (Blk.new w 29 (dtE x))
  have HB := Lib.hid (cur_new w (.cells (dtE x).toArray 29))
  obtain ⟨W, hW⟩ : ∃ W, w.alloc (.cells (dtE x).toArray 29) = W := ⟨_, rfl⟩
  have HC := Lib.hid (may_p x y v W hl (hr.to (by rw [← hW]; exact HB.out)) hv)
  rw [hW] at HK HX HB
  obtain ⟨xm, xd, xh, xa⟩ := x
  obtain ⟨yn, yt, ys, yA, yc⟩ := y
  simp only [dtE, umE] at hW HK HX HC ⊢
  obtain ⟨yl, hyl⟩ : ∃ q, ys.length = q := ⟨_, rfl⟩
  rw [hyl] at HK HC
  have SW := Lib.hid hW
  have a0 : W.cell? ⟨w.heap.size, 0, none⟩ = some (.int .i64 xm) := HX.out.cell 0
  have a1 : W.cell? ⟨w.heap.size, 1, none⟩ = some (.int .i64 xd) := HX.out.cell 1
  have a2 : W.cell? ⟨w.heap.size, 2, none⟩ = some (.string xh) := HX.out.cell 2
  have a3 : W.cell? ⟨w.heap.size, 3, none⟩ = some (.string xa) := HX.out.cell 3
  have b0 : W.cell? ⟨g, 0, none⟩ = some (.string yn) := HK.out.cell 0
  have b1 : W.cell? ⟨g, 1, none⟩ = some (.string yt) := HK.out.cell 1
  have b2 : W.cell? ⟨g, 2, none⟩ = some (.slice yA yl yc) := HK.out.cell 2
  clear hk hl hr hv hW hyl
  go_enter Try.func43, Try.ntmps43
  go_upto_region 1 with (fail)
  change Code.wp _ _ _ _ (w.alloc (.cells #[.int .i64 xm, .int .i64 xd, .string xh, .string xa] 29))
  rw [SW.out]
  go_wp2_with (go_at_call 12; refine HC.out.mono ?_; rintro e w1 ⟨rfl, hb1⟩; have HB1 := Lib.hid (cur_step1 HB.out hb1); clear hb1)
  go_ret
  exact ⟨rfl, HB1.out⟩
theorem idx1_p (A : Option Addr) (c : Nat) (l : List Dty) (g : Nat) (f : Dty → Bool) (w : World) (hl : l.length ≤ 1000000) (hr : Rd dtE 4 w w.heap.size A l) (hc : ∀ x w', x ∈ l → Below w.heap.size w w' → Calls Try.prog 41 #[.agg (dtE x).toArray, .pointer (some ⟨g, 0, none⟩)] w' fun e w'' => e = .returned (.bool (f x)) ∧ Below w'.heap.size w' w'') :
    Calls Try.prog 40 #[.slice A l.length c, .func (.func 41) #[] #[.pointer (some ⟨g, 0, none⟩)]] w fun e w' => e = .returned (.int .i64 (fidx f l)) ∧ Below w.heap.size w w' := by
  have HR := Lib.hid hr
  have HC := Lib.hid hc
  clear hr hc
  go_enter Try.func40, Try.ntmps40
  go_wp2
  go_loopw [8] (fun i wr => ∃ k : Nat, k ≤ l.length ∧ i = .int .i64 k ∧ (∀ j x, j < k → l[j]? = some x → f x = false) ∧ Below w.heap.size w wr) (fun i _ => l.length - (intOf i).toNat)
  case atStart => exact ⟨0, by simp, rfl, by intro j x h; omega, Below.refl _ _⟩
  case round =>
    obtain ⟨k, hk, rfl, hno, hB⟩ := hrel
    have HNO := Lib.hid hno
    have HB := Lib.hid hB
    clear hno hB
    by_cases hlt2 : k < l.length
    · obtain ⟨x, hx⟩ : ∃ x, l[k]? = some x := ⟨_, List.getElem?_eq_getElem hlt2⟩
      obtain ⟨b, off, rfl, hbb, hcl⟩ := HR.out.at_ HB.out hx
      obtain ⟨c0, c1, c2, c3⟩ := dt_cells hcl
      have HX := Lib.hid hx
      have HCX := Lib.hid (HC.out x wr (List.mem_of_getElem? hx) HB.out)
      clear hcl hx
      obtain ⟨v, hv⟩ : ∃ v, f x = v := ⟨_, rfl⟩
      rw [hv] at HCX
      have HI := Lib.hid hv
      clear hv
      obtain ⟨xm, xd, xh, xa⟩ := x
      dsimp only at c0 c1 c2 c3
      cases v
      · go_wp2_with (go_at_call 41; refine HCX.out.mono ?_; rintro e w1 ⟨rfl, hb1⟩)
        first
        | (go_roundw
           case rel =>
             refine ⟨k + 1, hlt2, by simp, fun j y hj hy => ?_, cur_step1 HB.out hb1⟩
             by_cases e : j = k
             · subst e
               rw [HX.out] at hy
               injection hy with hy
               rw [← hy]; exact HI.out
             · exact HNO.out j y (by omega) hy
           case measure => simp [intOf]; omega)
      · go_wp2_with (go_at_call 41; refine HCX.out.mono ?_; rintro e w1 ⟨rfl, hb1⟩)
        go_ret
        exact ⟨ret_int (fidx_some HX.out HI.out HNO.out).symm, cur_step1 HB.out hb1⟩
    · have hke : k = l.length := by omega
      have HNN := Lib.hid (fidx_none (fun j y hj hy => HNO.out j y (by omega) hy))
      go_wp2
      go_ret
      exact ⟨ret_int HNN.out.symm, HB.out⟩
theorem idx2_p (A : Option Addr) (c : Nat) (l : List Dty) (g : Nat) (f : Dty → Bool) (w : World) (hl : l.length ≤ 1000000) (hr : Rd dtE 4 w w.heap.size A l) (hc : ∀ x w', x ∈ l → Below w.heap.size w w' → Calls Try.prog 43 #[.agg (dtE x).toArray, .pointer (some ⟨g, 0, none⟩)] w' fun e w'' => e = .returned (.bool (f x)) ∧ Below w'.heap.size w' w'') :
    Calls Try.prog 40 #[.slice A l.length c, .func (.func 43) #[] #[.pointer (some ⟨g, 0, none⟩)]] w fun e w' => e = .returned (.int .i64 (fidx f l)) ∧ Below w.heap.size w w' := by
  have HR := Lib.hid hr
  have HC := Lib.hid hc
  clear hr hc
  go_enter Try.func40, Try.ntmps40
  go_wp2
  go_loopw [8] (fun i wr => ∃ k : Nat, k ≤ l.length ∧ i = .int .i64 k ∧ (∀ j x, j < k → l[j]? = some x → f x = false) ∧ Below w.heap.size w wr) (fun i _ => l.length - (intOf i).toNat)
  case atStart => exact ⟨0, by simp, rfl, by intro j x h; omega, Below.refl _ _⟩
  case round =>
    obtain ⟨k, hk, rfl, hno, hB⟩ := hrel
    have HNO := Lib.hid hno
    have HB := Lib.hid hB
    clear hno hB
    by_cases hlt2 : k < l.length
    · obtain ⟨x, hx⟩ : ∃ x, l[k]? = some x := ⟨_, List.getElem?_eq_getElem hlt2⟩
      obtain ⟨b, off, rfl, hbb, hcl⟩ := HR.out.at_ HB.out hx
      obtain ⟨c0, c1, c2, c3⟩ := dt_cells hcl
      have HX := Lib.hid hx
      have HCX := Lib.hid (HC.out x wr (List.mem_of_getElem? hx) HB.out)
      clear hcl hx
      obtain ⟨v, hv⟩ : ∃ v, f x = v := ⟨_, rfl⟩
      rw [hv] at HCX
      have HI := Lib.hid hv
      clear hv
      obtain ⟨xm, xd, xh, xa⟩ := x
      dsimp only at c0 c1 c2 c3
      cases v
      · go_wp2_with (go_at_call 43; refine HCX.out.mono ?_; rintro e w1 ⟨rfl, hb1⟩)
        first
        | (go_roundw
           case rel =>
             refine ⟨k + 1, hlt2, by simp, fun j y hj hy => ?_, cur_step1 HB.out hb1⟩
             by_cases e : j = k
             · subst e
               rw [HX.out] at hy
               injection hy with hy
               rw [← hy]; exact HI.out
             · exact HNO.out j y (by omega) hy
           case measure => simp [intOf]; omega)
      · go_wp2_with (go_at_call 43; refine HCX.out.mono ?_; rintro e w1 ⟨rfl, hb1⟩)
        go_ret
        exact ⟨ret_int (fidx_some HX.out HI.out HNO.out).symm, cur_step1 HB.out hb1⟩
    · have hke : k = l.length := by omega
      have HNN := Lib.hid (fidx_none (fun j y hj hy => HNO.out j y (by omega) hy))
      go_wp2
      go_ret
      exact ⟨ret_int HNN.out.symm, HB.out⟩
theorem cont2_p (A : Option Addr) (c : Nat) (l : List Dty) (y : Ump) (g : Nat) (v : Bool) (w : World) (hl : l.length ≤ 1000000) (hr : Rd dtE 4 w w.heap.size A l) (hk : Blk w g 32 (umE y)) (hyl : y.ds.length ≤ 1000000) (hyr : Rd iE 1 w w.heap.size y.a y.ds) (hv : (l.any fun x => mayB x y) = v) :
    Calls Try.prog 42 #[.slice A l.length c, .func (.func 43) #[] #[.pointer (some ⟨g, 0, none⟩)]] w fun e w' => e = .returned (.bool v) ∧ Below w.heap.size w w' := by
  have HV := Lib.hid (show decide (0 ≤ fidx (fun x => mayB x y) l) = v from fidx_any.trans hv)
  have HI := Lib.hid (idx2_p A c l g (fun x => mayB x y) w hl hr (fun x w' hx hb => lit2_p x y g _ w' (hk.to hb) hyl (hyr.to hb) rfl))
  clear hr hk hyr hv
  obtain ⟨r, hr⟩ : ∃ r, fidx (fun x => mayB x y) l = r := ⟨_, rfl⟩
  rw [hr] at HI HV
  clear hr
  go_enter Try.func42, Try.ntmps42
  go_wp2_with (go_at_call 40; refine HI.out.mono ?_; rintro e w1 ⟨rfl, hb1⟩)
  go_ret
  exact ⟨ret_bool HV.out, hb1⟩
theorem index_r (A : Option Addr) (c : Nat) (l : List Dty) (n : Int) (w : World) (hl : l.length ≤ 1000000) (hr : Rd dtE 4 w w.heap.size A l) :
    Calls Try.prog 44 #[.slice A l.length c, .int .i64 n] w fun e w' => e = .returned (.int .i64 (fidx (fun x : Dty => x.m == n) l)) ∧ Below w.heap.size w w' := by
  have HR := Lib.hid hr
  clear hr
  go_enter Try.func44, Try.ntmps44
  go_wp2
  go_loopw [9] (fun i wr => ∃ k : Nat, k ≤ l.length ∧ i = .int .i64 k ∧ (∀ (j : Nat) (x : Dty), j < k → l[j]? = some x → (x.m == n) = false) ∧ Below w.heap.size w wr) (fun i _ => l.length - (intOf i).toNat)
  case atStart => exact ⟨0, by simp, rfl, by intro j x h; omega, Below.refl _ _⟩
  case round =>
    obtain ⟨k, hk, rfl, hno, hB⟩ := hrel
    have HNO := Lib.hid hno
    have HB := Lib.hid hB
    clear hno hB
    by_cases hlt2 : k < l.length
    · obtain ⟨x, hx⟩ : ∃ x, l[k]? = some x := ⟨_, List.getElem?_eq_getElem hlt2⟩
      obtain ⟨b, off, rfl, hbb, hcl⟩ := HR.out.at_ HB.out hx
      obtain ⟨c0, c1, c2, c3⟩ := dt_cells hcl
      have HX := Lib.hid hx
      have hbw : b < wr.heap.size := Nat.lt_of_lt_of_le hbb HB.out.size
      clear hcl hx
      obtain ⟨xm, xd, xh, xa⟩ := x
      dsimp only at c0 c1 c2 c3
      have HBN := Lib.hid (cur_step1 HB.out (cur_new wr (.cells #[.int .i64 xm, .int .i64 xd, .string xh, .string xa] 29)))
      by_cases hi : xm = n
      · have HI := Lib.hid hi
        have hd : (xm == n) = true := by simp [hi]
        clear hi
        go_wp2_with fail
        go_ret
        exact ⟨ret_int (fidx_some HX.out hd HNO.out).symm, HBN.out⟩
      · have HI := Lib.hid hi
        have hd : (xm == n) = false := by simp [hi]
        clear hi
        go_wp2_with fail
        go_roundw
        case rel =>
          refine ⟨k + 1, hlt2, by simp, fun j y hj hy => ?_, HBN.out⟩
          by_cases e : j = k
          · subst e
            rw [HX.out] at hy
            injection hy with hy
            rw [← hy]; exact hd
          · exact HNO.out j y (by omega) hy
        case measure => simp [intOf]; omega
    · have hke : k = l.length := by omega
      have HNN := Lib.hid (fidx_none (fun j y hj hy => HNO.out j y (by omega) hy))
      go_wp2
      go_ret
      exact ⟨ret_int HNN.out.symm, HB.out⟩
end Go.Proofs.Ytckbhdokfkabfaa
