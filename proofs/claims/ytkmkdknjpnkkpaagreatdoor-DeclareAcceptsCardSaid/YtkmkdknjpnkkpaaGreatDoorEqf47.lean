/-
  Chapter 47: slices.EqualFunc with the two functions of Accept.
-/
import Derived.Test.YtkmkdknjpnkkpaaGreatDoorEqu47
set_option linter.unusedSimpArgs false
set_option linter.unusedVariables false
namespace Go.Proofs.YtkmkdknjpnkkpaaGreatDoor
open Go.RowKit
set_option maxRecDepth 100000
set_option maxHeartbeats 1000000
def EqfI (p : List Int → List Int → Bool) (a b : List (List Int)) (w : World) (i : Value) (wr : World) : Prop := ∃ k : Nat, k ≤ a.length ∧ i = .int .i64 k ∧ (∀ (j : Nat) x y, j < k → a[j]? = some x → b[j]? = some y → p x y = true) ∧ Below w.heap.size w wr
def eqfT (p : List Int → List Int → Bool) (a b : List (List Int)) (v : Bool) : Prop := v = true ↔ a.length = b.length ∧ ∀ (j : Nat) x y, a[j]? = some x → b[j]? = some y → p x y = true
theorem eqf1_f (A B : Option Addr) (ac bc : Nat) (a b : List (List Int)) (v : Bool) (w : World) (hv : eqfT (fun x y : List Int => x.length == y.length) a b v) (hm : a.length ≤ 1000000) (hrm : ∀ x ∈ a, x.length ≤ 1000000) (hra : Rd2 w w.heap.size A a) (hrb : Rd2 w w.heap.size B b) :
    Calls Tryz.prog 36 #[.slice A a.length ac, .slice B b.length bc, .func (.func 37) #[] #[]] w fun e w' => e = .returned (.bool v) ∧ Below w.heap.size w w' := by
  by_cases hlen : a.length = b.length
  · have HA := Lib.hid hra
    have HB := Lib.hid hrb
    have HL := Lib.hid hlen
    have HV := Lib.hid hv
    have HR := Lib.hid hrm
    have hl1 : ((a.length : Int) != (b.length : Int)) = false := by simp [hlen]
    clear hra hrb hlen hv hrm
    go_enter Tryz.func36, Tryz.ntmps36
    go_wp2_with fail
    go_loopw [17] (EqfI (fun x y : List Int => x.length == y.length) a b w) (fun i _ => a.length - (intOf i).toNat)
    case atStart => exact ⟨0, by omega, rfl, fun j x y hj => by omega, Below.refl _ _⟩
    case round =>
      obtain ⟨k, hk, rfl, hq, hb⟩ := hrel
      have HBB := Lib.hid hb
      have HQ := Lib.hid hq
      clear hb hq
      by_cases hlt : k < a.length
      · obtain ⟨x, hx⟩ : ∃ x, a[k]? = some x := ⟨_, List.getElem?_eq_getElem hlt⟩
        obtain ⟨y, hy⟩ : ∃ y, b[k]? = some y := ⟨_, List.getElem?_eq_getElem (by have := HL.out; omega)⟩
        have hlt2 : k < b.length := by have := HL.out; omega
        have hxm := HR.out x (List.mem_of_getElem? hx)
        obtain ⟨b1, off1, rfl, hbb, A1, c1, hc, hr1⟩ := HA.out.at_ HBB.out hx
        obtain ⟨b2, off2, rfl, hbb', A2, c2, hc', hr2⟩ := HB.out.at_ HBB.out hy
        have HR1 := Lib.hid (hr1.more HBB.out.size)
        have HR2 := Lib.hid (hr2.more HBB.out.size)
        have HX := Lib.hid hx
        have HY := Lib.hid hy
        clear hr1 hr2 hx hy
        obtain ⟨q, hq⟩ : ∃ q, (fun x y : List Int => x.length == y.length) x y = q := ⟨_, rfl⟩
        have HQQ := Lib.hid hq
        clear hq
        cases q
        · have HF := Lib.hid (show false = v by
            have h1 := HV.out
            unfold eqfT at h1
            cases v with
            | false => rfl
            | true => have := (h1.1 rfl).2 k x y HX.out HY.out; rw [HQQ.out] at this; cases this)
          go_wp2_with fail
          refine (fn1_f A1 A2 c1 c2 x y _).mono ?_
          rw [show (x.length == y.length) = _ from HQQ.out]
          rintro e w1 ⟨rfl, hb1⟩
          have HB1 := Lib.hid (cur_step1 HBB.out hb1)
          clear hb1
          go_wp2_with fail
          go_ret
          exact ⟨ret_bool HF.out, HB1.out⟩
        · have HN := Lib.hid (show ∀ (j : Nat) x y, j < k + 1 → a[j]? = some x → b[j]? = some y → (fun x y : List Int => x.length == y.length) x y = true from fun j x' y' hj hx' hy' => by
            rcases Nat.lt_or_ge j k with h | h
            · exact HQ.out j x' y' h hx' hy'
            · obtain rfl : j = k := by omega
              rw [HX.out] at hx'
              rw [HY.out] at hy'
              injection hx' with hx'
              injection hy' with hy'
              subst hx' hy'
              exact HQQ.out)
          go_wp2_with fail
          refine (fn1_f A1 A2 c1 c2 x y _).mono ?_
          rw [show (x.length == y.length) = _ from HQQ.out]
          rintro e w1 ⟨rfl, hb1⟩
          have HB1 := Lib.hid (cur_step1 HBB.out hb1)
          clear hb1
          go_wp2_with fail
          go_roundw
          case rel => exact ⟨k + 1, hlt, by simp, HN.out, HB1.out⟩
          case measure => simp [intOf]; omega
      · have hke : k = a.length := by omega
        have HF := Lib.hid (show true = v from (HV.out.2 ⟨HL.out, fun j x y hx hy => HQ.out j x y (by have := (List.getElem?_eq_some_iff.1 hx).1; omega) hx hy⟩).symm)
        subst hke
        go_wp2_with fail
        go_ret
        exact ⟨ret_bool HF.out, HBB.out⟩
  · have hl1 : ((a.length : Int) != (b.length : Int)) = true := by simp; omega
    have HF := Lib.hid (show false = v by
      cases v with
      | false => rfl
      | true => exact absurd (hv.1 rfl).1 hlen)
    clear hlen hv
    go_enter Tryz.func36, Tryz.ntmps36
    go_wp2_with fail
    go_ret
    exact ⟨ret_bool HF.out, Below.refl _ _⟩
theorem eqf2_f (A B : Option Addr) (ac bc : Nat) (a b : List (List Int)) (v : Bool) (w : World) (hv : eqfT (fun x y : List Int => x == y) a b v) (hm : a.length ≤ 1000000) (hrm : ∀ x ∈ a, x.length ≤ 1000000) (hra : Rd2 w w.heap.size A a) (hrb : Rd2 w w.heap.size B b) :
    Calls Tryz.prog 36 #[.slice A a.length ac, .slice B b.length bc, .func (.func 38) #[] #[]] w fun e w' => e = .returned (.bool v) ∧ Below w.heap.size w w' := by
  by_cases hlen : a.length = b.length
  · have HA := Lib.hid hra
    have HB := Lib.hid hrb
    have HL := Lib.hid hlen
    have HV := Lib.hid hv
    have HR := Lib.hid hrm
    have hl1 : ((a.length : Int) != (b.length : Int)) = false := by simp [hlen]
    clear hra hrb hlen hv hrm
    go_enter Tryz.func36, Tryz.ntmps36
    go_wp2_with fail
    go_loopw [17] (EqfI (fun x y : List Int => x == y) a b w) (fun i _ => a.length - (intOf i).toNat)
    case atStart => exact ⟨0, by omega, rfl, fun j x y hj => by omega, Below.refl _ _⟩
    case round =>
      obtain ⟨k, hk, rfl, hq, hb⟩ := hrel
      have HBB := Lib.hid hb
      have HQ := Lib.hid hq
      clear hb hq
      by_cases hlt : k < a.length
      · obtain ⟨x, hx⟩ : ∃ x, a[k]? = some x := ⟨_, List.getElem?_eq_getElem hlt⟩
        obtain ⟨y, hy⟩ : ∃ y, b[k]? = some y := ⟨_, List.getElem?_eq_getElem (by have := HL.out; omega)⟩
        have hlt2 : k < b.length := by have := HL.out; omega
        have hxm := HR.out x (List.mem_of_getElem? hx)
        obtain ⟨b1, off1, rfl, hbb, A1, c1, hc, hr1⟩ := HA.out.at_ HBB.out hx
        obtain ⟨b2, off2, rfl, hbb', A2, c2, hc', hr2⟩ := HB.out.at_ HBB.out hy
        have HR1 := Lib.hid (hr1.more HBB.out.size)
        have HR2 := Lib.hid (hr2.more HBB.out.size)
        have HX := Lib.hid hx
        have HY := Lib.hid hy
        clear hr1 hr2 hx hy
        obtain ⟨q, hq⟩ : ∃ q, (fun x y : List Int => x == y) x y = q := ⟨_, rfl⟩
        have HQQ := Lib.hid hq
        clear hq
        cases q
        · have HF := Lib.hid (show false = v by
            have h1 := HV.out
            unfold eqfT at h1
            cases v with
            | false => rfl
            | true => have := (h1.1 rfl).2 k x y HX.out HY.out; rw [HQQ.out] at this; cases this)
          go_wp2_with fail
          refine (fn2_f A1 A2 c1 c2 x y _ hxm HR1.out HR2.out).mono ?_
          rw [show (x == y) = _ from HQQ.out]
          rintro e w1 ⟨rfl, hb1⟩
          have HB1 := Lib.hid (cur_step1 HBB.out hb1)
          clear hb1
          go_wp2_with fail
          go_ret
          exact ⟨ret_bool HF.out, HB1.out⟩
        · have HN := Lib.hid (show ∀ (j : Nat) x y, j < k + 1 → a[j]? = some x → b[j]? = some y → (fun x y : List Int => x == y) x y = true from fun j x' y' hj hx' hy' => by
            rcases Nat.lt_or_ge j k with h | h
            · exact HQ.out j x' y' h hx' hy'
            · obtain rfl : j = k := by omega
              rw [HX.out] at hx'
              rw [HY.out] at hy'
              injection hx' with hx'
              injection hy' with hy'
              subst hx' hy'
              exact HQQ.out)
          go_wp2_with fail
          refine (fn2_f A1 A2 c1 c2 x y _ hxm HR1.out HR2.out).mono ?_
          rw [show (x == y) = _ from HQQ.out]
          rintro e w1 ⟨rfl, hb1⟩
          have HB1 := Lib.hid (cur_step1 HBB.out hb1)
          clear hb1
          go_wp2_with fail
          go_roundw
          case rel => exact ⟨k + 1, hlt, by simp, HN.out, HB1.out⟩
          case measure => simp [intOf]; omega
      · have hke : k = a.length := by omega
        have HF := Lib.hid (show true = v from (HV.out.2 ⟨HL.out, fun j x y hx hy => HQ.out j x y (by have := (List.getElem?_eq_some_iff.1 hx).1; omega) hx hy⟩).symm)
        subst hke
        go_wp2_with fail
        go_ret
        exact ⟨ret_bool HF.out, HBB.out⟩
  · have hl1 : ((a.length : Int) != (b.length : Int)) = true := by simp; omega
    have HF := Lib.hid (show false = v by
      cases v with
      | false => rfl
      | true => exact absurd (hv.1 rfl).1 hlen)
    clear hlen hv
    go_enter Tryz.func36, Tryz.ntmps36
    go_wp2_with fail
    go_ret
    exact ⟨ret_bool HF.out, Below.refl _ _⟩
theorem eqfT_len (a b : List (List Int)) : eqfT (fun x y : List Int => x.length == y.length) a b (decide (a.map List.length = b.map List.length)) := by
  unfold eqfT
  rw [decide_eq_true_iff]
  constructor
  · intro h
    have hl : a.length = b.length := by simpa using congrArg List.length h
    refine ⟨hl, fun j x y hx hy => ?_⟩
    have := congrArg (·[j]?) h
    simp only [List.getElem?_map, hx, hy, Option.map_some] at this
    injection this with this
    simpa using this
  · rintro ⟨hl, h⟩
    apply List.ext_getElem?
    intro j
    rw [List.getElem?_map, List.getElem?_map]
    by_cases hj : j < a.length
    · obtain ⟨x, hx⟩ : ∃ x, a[j]? = some x := ⟨_, List.getElem?_eq_getElem hj⟩
      obtain ⟨y, hy⟩ : ∃ y, b[j]? = some y := ⟨_, List.getElem?_eq_getElem (by omega)⟩
      have := h j x y hx hy
      simp at this
      rw [hx, hy, Option.map_some, Option.map_some, this]
    · rw [List.getElem?_eq_none (by omega), List.getElem?_eq_none (by omega)]
theorem eqfT_eq (a b : List (List Int)) : eqfT (fun x y : List Int => x == y) a b (decide (a = b)) := by
  unfold eqfT
  rw [decide_eq_true_iff]
  constructor
  · rintro rfl
    refine ⟨rfl, fun j x y hx hy => ?_⟩
    rw [hx] at hy
    injection hy with hy
    subst hy
    simp
  · rintro ⟨hl, h⟩
    apply List.ext_getElem?
    intro j
    by_cases hj : j < a.length
    · obtain ⟨x, hx⟩ : ∃ x, a[j]? = some x := ⟨_, List.getElem?_eq_getElem hj⟩
      obtain ⟨y, hy⟩ : ∃ y, b[j]? = some y := ⟨_, List.getElem?_eq_getElem (by omega)⟩
      have := h j x y hx hy
      simp at this
      rw [hx, hy, this]
    · rw [List.getElem?_eq_none (by omega), List.getElem?_eq_none (by omega)]
end Go.Proofs.YtkmkdknjpnkkpaaGreatDoor
