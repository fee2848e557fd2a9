/-
  Chapter 54: the closures of Add, what they find.
-/
import Derived.Test.YtleegellkeedhaaCk54
namespace Go.Proofs.Ytleegellkeedhaa
open Go.RowKit
set_option maxRecDepth 100000
set_option maxHeartbeats 1000000
def findI (f : Tr → Bool) : List Tr → Nat → Int
  | [], _ => -1
  | x :: xs, k => if f x then (k : Int) else findI f xs (k + 1)
theorem findI_at {f : Tr → Bool} {l : List Tr} {k : Nat} {x : Tr} (h : l[k]? = some x) : findI f (l.drop k) k = if f x then (k : Int) else findI f (l.drop (k + 1)) (k + 1) := by
  obtain ⟨hk, rfl⟩ := List.getElem?_eq_some_iff.1 h
  rw [List.drop_eq_getElem_cons hk]
  rfl
def ordI (a b : Tr) : Int := if cmpI a.d b.d = 0 then cmpS a.p b.p else cmpI a.d b.d
def eqPD (t x : Tr) : Bool := seq x.p t.p && (x.d == t.d)
def gtT (t x : Tr) : Bool := decide (0 < ordI x t)
theorem lit_a (x t : Tr) (g : Nat) (v : Bool) (w : World) (h0 : w.cell? ⟨g, 0, none⟩ = some (.string t.p)) (_h1 : w.cell? ⟨g, 1, none⟩ = some (.string t.t)) (h2 : w.cell? ⟨g, 2, none⟩ = some (.int .i64 t.d)) (hgl : g < w.heap.size) (hv : eqPD t x = v) :
    Calls Try.prog 36 #[.agg #[.string x.p, .string x.t, .int .i64 x.d], .pointer (some ⟨g, 0, none⟩)] w fun e w' => e = .returned (.bool v) ∧ Below w.heap.size w w' := by
  have es := seq_to x.p t.p
  unfold eqPD at hv
  cases hs : seq x.p t.p
  · rw [hs] at es hv
    have HE := Lib.hid (show false = v by rw [← hv]; rfl)
    clear hs hv
    go_enter Try.func36, Try.ntmps36
    go_wp2_with fail
    go_ret
    exact ⟨ret_bool HE.out, cur_new w _⟩
  · rw [hs] at es hv
    cases hd : (x.d == t.d)
    · rw [hd] at hv
      have HE := Lib.hid (show false = v by rw [← hv]; rfl)
      clear hs hv
      go_enter Try.func36, Try.ntmps36
      go_wp2_with fail
      go_ret
      exact ⟨ret_bool HE.out, cur_new w _⟩
    · rw [hd] at hv
      have HE := Lib.hid (show true = v by rw [← hv]; rfl)
      clear hs hv
      go_enter Try.func36, Try.ntmps36
      go_wp2_with fail
      go_ret
      exact ⟨ret_bool HE.out, cur_new w _⟩
theorem lit_b (x t : Tr) (g : Nat) (v : Bool) (w : World) (h0 : w.cell? ⟨g, 0, none⟩ = some (.string t.p)) (h1 : w.cell? ⟨g, 1, none⟩ = some (.string t.t)) (h2 : w.cell? ⟨g, 2, none⟩ = some (.int .i64 t.d)) (hgl : g < w.heap.size) (hv : gtT t x = v) :
    Calls Try.prog 38 #[.agg #[.string x.p, .string x.t, .int .i64 x.d], .pointer (some ⟨g, 0, none⟩)] w fun e w' => e = .returned (.bool v) ∧ Below w.heap.size w w' := by
  obtain ⟨r, hr⟩ : ∃ r, ordI x t = r := ⟨_, rfl⟩
  have HR := Lib.hid hr
  unfold gtT at hv
  rw [hr] at hv
  clear hr
  go_enter Try.func38, Try.ntmps38
  go_wp2_with (go_at_call 27; refine (order_f x t r _ HR.out).mono ?_; rintro e w1 ⟨rfl, hb1⟩)
  all_goals
    go_ret
    exact ⟨ret_bool (by rw [← hv]), by first | exact cur_step0 hb1 | exact hb1⟩
def IxA_a (w : World) (l : List Tr) (t : Tr) (i : Value) (wr : World) : Prop := ∃ k : Nat, k ≤ l.length ∧ i = .int .i64 k ∧ findI (eqPD t) l 0 = findI (eqPD t) (l.drop k) k ∧ Below w.heap.size w wr
theorem idx_a (A : Option Addr) (c : Nat) (l : List Tr) (t : Tr) (g : Nat) (r : Int) (w : World) (hl : l.length ≤ 1000000) (hr : Rd trE 3 w w.heap.size A l) (hg0 : w.cell? ⟨g, 0, none⟩ = some (.string t.p)) (hg1 : w.cell? ⟨g, 1, none⟩ = some (.string t.t)) (hg2 : w.cell? ⟨g, 2, none⟩ = some (.int .i64 t.d)) (hgl : g < w.heap.size) (hv : findI (eqPD t) l 0 = r) :
    Calls Try.prog 37 #[.slice A l.length c, .func (.func 36) #[] #[.pointer (some ⟨g, 0, none⟩)]] w fun e w' => e = .returned (.int .i64 r) ∧ Below w.heap.size w w' := by
  have HV := Lib.hid hv
  have HR := Lib.hid hr
  clear hr hv
  go_enter Try.func37, Try.ntmps37
  go_wp2
  go_loopw [8] (IxA_a w l t) (fun i _ => l.length - (intOf i).toNat)
  case atStart => exact ⟨0, by simp, rfl, rfl, Below.refl _ _⟩
  case round =>
    obtain ⟨k, hk, rfl, hq, hB⟩ := hrel
    have HQ := Lib.hid hq
    have HB := Lib.hid hB
    have e0 := (hB.cell (p := ⟨g, 0, none⟩) hgl).trans hg0
    have e1 := (hB.cell (p := ⟨g, 1, none⟩) hgl).trans hg1
    have e2 := (hB.cell (p := ⟨g, 2, none⟩) hgl).trans hg2
    have hgl2 : g < wr.heap.size := by have := hB.size; omega
    clear hq hB
    by_cases hlt2 : k < l.length
    · obtain ⟨x, hx⟩ : ∃ x, l[k]? = some x := ⟨_, List.getElem?_eq_getElem hlt2⟩
      obtain ⟨b, off, rfl, hbb, hcl⟩ := HR.out.at_ HB.out hx
      obtain ⟨c0, c1, c2⟩ := tr_cells hcl
      have HF := Lib.hid (findI_at (f := eqPD t) hx)
      clear hcl hx
      cases hi : eqPD t x
      · have HI := Lib.hid hi
        have HE := Lib.hid (show findI (eqPD t) l 0 = findI (eqPD t) (l.drop (k + 1)) (k + 1) by rw [HQ.out, HF.out, hi]; rfl)
        clear hi
        go_wp2_with (go_at_call 36; refine (lit_a x t g false _ e0 e1 e2 hgl2 HI.out).mono ?_; rintro e w1 ⟨rfl, hb1⟩)
        go_roundw
        case rel => exact ⟨k + 1, hlt2, by simp, HE.out, cur_step1 HB.out hb1⟩
        case measure => simp [intOf]; omega
      · have HI := Lib.hid hi
        have HE := Lib.hid (show (k : Int) = r by rw [← HV.out, HQ.out, HF.out, hi]; rfl)
        clear hi
        go_wp2_with (go_at_call 36; refine (lit_a x t g true _ e0 e1 e2 hgl2 HI.out).mono ?_; rintro e w1 ⟨rfl, hb1⟩)
        go_ret
        exact ⟨ret_int HE.out, cur_step1 HB.out hb1⟩
    · have HE := Lib.hid (show (-1 : Int) = r by rw [← HV.out, HQ.out, List.drop_of_length_le (by omega)]; rfl)
      go_wp2
      go_ret
      exact ⟨ret_int HE.out, HB.out⟩
def IxA_b (w : World) (l : List Tr) (t : Tr) (i : Value) (wr : World) : Prop := ∃ k : Nat, k ≤ l.length ∧ i = .int .i64 k ∧ findI (gtT t) l 0 = findI (gtT t) (l.drop k) k ∧ Below w.heap.size w wr
theorem idx_b (A : Option Addr) (c : Nat) (l : List Tr) (t : Tr) (g : Nat) (r : Int) (w : World) (hl : l.length ≤ 1000000) (hr : Rd trE 3 w w.heap.size A l) (hg0 : w.cell? ⟨g, 0, none⟩ = some (.string t.p)) (hg1 : w.cell? ⟨g, 1, none⟩ = some (.string t.t)) (hg2 : w.cell? ⟨g, 2, none⟩ = some (.int .i64 t.d)) (hgl : g < w.heap.size) (hv : findI (gtT t) l 0 = r) :
    Calls Try.prog 37 #[.slice A l.length c, .func (.func 38) #[] #[.pointer (some ⟨g, 0, none⟩)]] w fun e w' => e = .returned (.int .i64 r) ∧ Below w.heap.size w w' := by
  have HV := Lib.hid hv
  have HR := Lib.hid hr
  clear hr hv
  go_enter Try.func37, Try.ntmps37
  go_wp2
  go_loopw [8] (IxA_b w l t) (fun i _ => l.length - (intOf i).toNat)
  case atStart => exact ⟨0, by simp, rfl, rfl, Below.refl _ _⟩
  case round =>
    obtain ⟨k, hk, rfl, hq, hB⟩ := hrel
    have HQ := Lib.hid hq
    have HB := Lib.hid hB
    have e0 := (hB.cell (p := ⟨g, 0, none⟩) hgl).trans hg0
    have e1 := (hB.cell (p := ⟨g, 1, none⟩) hgl).trans hg1
    have e2 := (hB.cell (p := ⟨g, 2, none⟩) hgl).trans hg2
    have hgl2 : g < wr.heap.size := by have := hB.size; omega
    clear hq hB
    by_cases hlt2 : k < l.length
    · obtain ⟨x, hx⟩ : ∃ x, l[k]? = some x := ⟨_, List.getElem?_eq_getElem hlt2⟩
      obtain ⟨b, off, rfl, hbb, hcl⟩ := HR.out.at_ HB.out hx
      obtain ⟨c0, c1, c2⟩ := tr_cells hcl
      have HF := Lib.hid (findI_at (f := gtT t) hx)
      clear hcl hx
      cases hi : gtT t x
      · have HI := Lib.hid hi
        have HE := Lib.hid (show findI (gtT t) l 0 = findI (gtT t) (l.drop (k + 1)) (k + 1) by rw [HQ.out, HF.out, hi]; rfl)
        clear hi
        go_wp2_with (go_at_call 38; refine (lit_b x t g false _ e0 e1 e2 hgl2 HI.out).mono ?_; rintro e w1 ⟨rfl, hb1⟩)
        go_roundw
        case rel => exact ⟨k + 1, hlt2, by simp, HE.out, cur_step1 HB.out hb1⟩
        case measure => simp [intOf]; omega
      · have HI := Lib.hid hi
        have HE := Lib.hid (show (k : Int) = r by rw [← HV.out, HQ.out, HF.out, hi]; rfl)
        clear hi
        go_wp2_with (go_at_call 38; refine (lit_b x t g true _ e0 e1 e2 hgl2 HI.out).mono ?_; rintro e w1 ⟨rfl, hb1⟩)
        go_ret
        exact ⟨ret_int HE.out, cur_step1 HB.out hb1⟩
    · have HE := Lib.hid (show (-1 : Int) = r by rw [← HV.out, HQ.out, List.drop_of_length_le (by omega)]; rfl)
      go_wp2
      go_ret
      exact ⟨ret_int HE.out, HB.out⟩
theorem cont_a (A : Option Addr) (c : Nat) (l : List Tr) (t : Tr) (g : Nat) (v : Bool) (w : World) (hl : l.length ≤ 1000000) (hr : Rd trE 3 w w.heap.size A l) (hg0 : w.cell? ⟨g, 0, none⟩ = some (.string t.p)) (hg1 : w.cell? ⟨g, 1, none⟩ = some (.string t.t)) (hg2 : w.cell? ⟨g, 2, none⟩ = some (.int .i64 t.d)) (hgl : g < w.heap.size) (hv : decide (0 ≤ findI (eqPD t) l 0) = v) :
    Calls Try.prog 22 #[.slice A l.length c, .func (.func 36) #[] #[.pointer (some ⟨g, 0, none⟩)]] w fun e w' => e = .returned (.bool v) ∧ Below w.heap.size w w' := by
  obtain ⟨r, hr2⟩ : ∃ r, findI (eqPD t) l 0 = r := ⟨_, rfl⟩
  have HV := Lib.hid hv
  rw [hr2] at HV
  have HQ := Lib.hid hr2
  have HR := Lib.hid hr
  clear hr hv hr2
  go_enter Try.func22, Try.ntmps22
  go_wp2_with (go_at_call 37; refine (idx_a A c l t g r _ hl HR.out hg0 hg1 hg2 hgl HQ.out).mono ?_; rintro e w1 ⟨rfl, hb1⟩)
  go_ret
  exact ⟨ret_bool HV.out, hb1⟩
end Go.Proofs.Ytleegellkeedhaa
