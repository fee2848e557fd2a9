/-
  Chapter 56: slices.Equal, the law's small functions, the example of the chapter.
-/
import Derived.Test.YtpninpohligomaaGreatDoorSus56
set_option linter.unusedSimpArgs false
set_option linter.unusedVariables false
namespace Go.Proofs.YtpninpohligomaaGreatDoor
open Go.RowKit
set_option maxRecDepth 100000
set_option maxHeartbeats 1000000
theorem few_f (A : Option Addr) (c n : Nat) (w : World) (hn : n ≤ 9223372036854775807) (hc : n ≤ c) :
    Calls Tryz.prog 8 #[.slice A n c] w fun e w' => e = .returned (.slice A (min n 16) c) ∧ Below w.heap.size w w' := by
  by_cases h : n ≤ 16
  · rw [Nat.min_eq_left h]
    go_enter Tryz.func8, Tryz.ntmps8
    go_wp2_with fail
    all_goals go_wp2_with fail
    all_goals
      go_ret
      exact ⟨rfl, Below.refl _ _⟩
  · rw [Nat.min_eq_right (by omega)]
    go_enter Tryz.func8, Tryz.ntmps8
    go_wp2_with fail
    all_goals go_wp2_with fail
    all_goals
      go_ret
      exact ⟨rfl, Below.refl _ _⟩
def EqR (w : World) (a b : List Int) (i : Value) (wr : World) : Prop := ∃ k : Nat, k ≤ a.length ∧ i = .int .i64 k ∧ (∀ j, j < k → a[j]? = b[j]?) ∧ Below w.heap.size w wr
theorem eq_f (A B : Option Addr) (c d : Nat) (a b : List Int) (v : Bool) (w : World) (ha : a.length ≤ 1000000) (hb : b.length ≤ 1000000) (hra : Rd inE 1 w w.heap.size A a) (hrb : Rd inE 1 w w.heap.size B b) (hv : (a == b) = v) :
    Calls Tryz.prog 26 #[.slice A a.length c, .slice B b.length d] w fun e w' => e = .returned (.bool v) ∧ Below w.heap.size w w' := by
  have HA := Lib.hid hra
  have HBb := Lib.hid hrb
  by_cases hl : a.length = b.length
  · have hel : ((a.length : Int) != (b.length : Int)) = false := by simp [hl]
    have hel2 : ((a.length : Int) == (b.length : Int)) = true := by simp [hl]
    have HL := Lib.hid hl
    have HV := Lib.hid hv
    clear hv hra hrb hl
    go_enter Tryz.func26, Tryz.ntmps26
    go_wp2_with fail
    go_loopw [13] (EqR w a b) (fun i _ => a.length - (intOf i).toNat)
    case atStart => exact ⟨0, by omega, rfl, by intro j h; omega, Below.refl _ _⟩
    case round =>
      obtain ⟨k, hk, rfl, hno, hB⟩ := hrel
      have HNO := Lib.hid hno
      have HB := Lib.hid hB
      clear hno hB
      by_cases hlt : k < a.length
      · have hlb : k < b.length := by have := HL.out; omega
        obtain ⟨x, hx⟩ : ∃ x, a[k]? = some x := ⟨_, List.getElem?_eq_getElem hlt⟩
        obtain ⟨y, hy⟩ : ∃ y, b[k]? = some y := ⟨_, List.getElem?_eq_getElem hlb⟩
        obtain ⟨b1, o1, rfl, hb1, hc1⟩ := HA.out.at_ HB.out hx
        obtain ⟨b2, o2, rfl, hb2, hc2⟩ := HBb.out.at_ HB.out hy
        have c1 := in_cell hc1
        have c2 := in_cell hc2
        have l1 : b1 < wr.heap.size := by have := HB.out.size; omega
        have l2 : b2 < wr.heap.size := by have := HB.out.size; omega
        have HX := Lib.hid hx
        have HY := Lib.hid hy
        clear hc1 hc2 hx hy
        cases hxy : (x == y)
        · have HE := Lib.hid (show false = v by
            rw [← HV.out]
            symm
            rw [beq_eq_false_iff_ne]
            intro e
            have h := HX.out
            rw [e, HY.out] at h
            injection h with h
            rw [h] at hxy
            simp at hxy)
          have hne : (x != y) = true := by simpa using hxy
          go_wp2_with fail
          go_quiet (fail)
          go_wp2_with fail
          go_ret
          exact ⟨ret_bool HE.out, below_drewN HB.out _⟩
        · have HE := Lib.hid (show a[k]? = b[k]? by rw [HX.out, HY.out]; simpa using hxy)
          have hne : (x != y) = false := by simpa using hxy
          go_wp2_with fail
          go_quiet (fail)
          go_wp2_with fail
          go_roundw
          case rel =>
            refine ⟨k + 1, hlt, by simp, fun j hj => ?_, below_drewN HB.out _⟩
            by_cases e : j = k
            · rw [e]; exact HE.out
            · exact HNO.out j (by omega)
          case measure => simp [intOf]; omega
      · have HE := Lib.hid (show true = v by
          rw [← HV.out]
          symm
          rw [beq_iff_eq]
          apply List.ext_getElem?
          intro j
          by_cases hj : j < a.length
          · exact HNO.out j (by omega)
          · rw [List.getElem?_eq_none (by omega), List.getElem?_eq_none (by have := HL.out; omega)])
        go_wp2_with fail
        go_ret
        exact ⟨ret_bool HE.out, HB.out⟩
  · have hel : ((a.length : Int) != (b.length : Int)) = true := by simp; omega
    have HE := Lib.hid (show false = v by rw [← hv]; symm; rw [beq_eq_false_iff_ne]; intro e; exact hl (by rw [e]))
    clear hv hra hrb hl
    go_enter Tryz.func26, Tryz.ntmps26
    go_wp2_with fail
    go_ret
    exact ⟨ret_bool HE.out, Below.refl _ _⟩
theorem rd_blk {α : Type} {enc : α → List Value} {size : Nat} (hlen : ∀ z, (enc z).length = size) {w : World} {g : Nat} {e : TypeId} {l : List α} (h : Blk w g e (l.flatMap enc)) : Rd enc size w w.heap.size (some ⟨g, 0, none⟩) l :=
  fun k x hx => ⟨g, 0, rfl, h.lt, fun j u hu => by rw [Nat.zero_add, h.cell]; exact flat_at hlen l k x hx j u hu⟩
def exL : List Of := [⟨1, ⟨#[65, 78, 78]⟩, 10, 3⟩, ⟨2, ⟨#[65, 78, 78]⟩, 20, 1⟩, ⟨3, ⟨#[65, 78, 78]⟩, 21, 2⟩]
def exM : List Int := [15, 20, 25, 30, 35]
def exR : List Int := [25, 30]
theorem ex1 : pointsS exL ⟨#[65, 78, 78]⟩ 21 = (6, 0) := by decide +kernel
theorem ex2 : pointsS exL ⟨#[65, 78, 78]⟩ 740 = (3, 0) := by decide +kernel
theorem ex3 : suspS exL ⟨#[65, 78, 78]⟩ exM = (exR, 0) := by decide +kernel
theorem szL : ∀ z ∈ exL, z.p.size ≤ 9223372036854775807 := by
  intro z h
  simp only [exL, List.mem_cons, List.not_mem_nil, or_false] at h
  rcases h with rfl | rfl | rfl <;> decide
theorem awake_any (w : World) : Calls Tryz.prog 7 #[] w fun e w' => e = .returned (.bool true) ∧ Below w.heap.size w w' := by
  go_enter Tryz.func7, Tryz.ntmps7
  go_wp2_with fail
  have hL := Blk.new w 32 (exL.flatMap ofE)
  have hb := cur_new w (.cells (exL.flatMap ofE).toArray 32)
  rw [show (exL.flatMap ofE).toArray = #[.int .i64 1, .string ⟨#[65, 78, 78]⟩, .int .i64 10, .int .i64 3, .int .i64 2, .string ⟨#[65, 78, 78]⟩, .int .i64 20, .int .i64 1, .int .i64 3, .string ⟨#[65, 78, 78]⟩, .int .i64 21, .int .i64 2] from rfl] at hL hb
  generalize w.alloc (Obj.cells #[.int .i64 1, .string ⟨#[65, 78, 78]⟩, .int .i64 10, .int .i64 3, .int .i64 2, .string ⟨#[65, 78, 78]⟩, .int .i64 20, .int .i64 1, .int .i64 3, .string ⟨#[65, 78, 78]⟩, .int .i64 21, .int .i64 2] 32) = w2 at hL hb ⊢
  have HL2 := Lib.hid (rd_blk ofE_len hL)
  have HB2 := Lib.hid hb
  clear hL hb
  refine (Points_p _ 3 exL _ 21 6 0 w2 (by decide) (by decide) HL2.out szL ex1).mono ?_
  rintro e w3 ⟨rfl, hb3⟩
  have HL3 := Lib.hid (HL2.out.to hb3)
  have HB3 := Lib.hid (cur_step1 HB2.out hb3)
  clear HL2 HB2 hb3
  go_wp2_with fail
  refine (Points_p _ 3 exL _ 740 3 0 w3 (by decide) (by decide) HL3.out szL ex2).mono ?_
  rintro e w4 ⟨rfl, hb4⟩
  have HL4 := Lib.hid (HL3.out.to hb4)
  have HB4 := Lib.hid (cur_step1 HB3.out hb4)
  clear HL3 HB3 hb4
  go_wp2_with fail
  have hM := Blk.new w4 2 (exM.flatMap inE)
  have hb5 := cur_new w4 (.cells (exM.flatMap inE).toArray 2)
  rw [show (exM.flatMap inE).toArray = #[.int .i64 15, .int .i64 20, .int .i64 25, .int .i64 30, .int .i64 35] from rfl] at hM hb5
  generalize w4.alloc (Obj.cells #[.int .i64 15, .int .i64 20, .int .i64 25, .int .i64 30, .int .i64 35] 2) = w5 at hM hb5 ⊢
  have HL5 := Lib.hid (HL4.out.to hb5)
  have HB5 := Lib.hid (cur_step1 HB4.out hb5)
  have HM5 := Lib.hid (rd_blk inE_len hM)
  clear hM hb5 HL4 HB4
  have hs := susp_p (some ⟨w.heap.size, 0, none⟩) (some ⟨w4.heap.size, 0, none⟩) 3 5 exL ⟨#[65, 78, 78]⟩ exM w5 (by decide) (by decide) (by decide) HL5.out HM5.out szL
  rw [ex3] at hs
  refine hs.mono ?_
  clear hs
  rintro e w6 ⟨A2, c2, rfl, hrd, hb6⟩
  have HB6 := Lib.hid (cur_step1 HB5.out hb6)
  have HR6 := Lib.hid hrd
  clear hrd hb6
  go_wp2_with fail
  have hQ := Blk.new w6 2 (exR.flatMap inE)
  have hb7 := cur_new w6 (.cells (exR.flatMap inE).toArray 2)
  rw [show (exR.flatMap inE).toArray = #[.int .i64 25, .int .i64 30] from rfl] at hQ hb7
  generalize w6.alloc (Obj.cells #[.int .i64 25, .int .i64 30] 2) = w7 at hQ hb7 ⊢
  refine (eq_f A2 (some ⟨w6.heap.size, 0, none⟩) c2 2 exR exR true w7 (by decide) (by decide) (HR6.out.to hb7) (rd_blk inE_len hQ) (by decide)).mono ?_
  rintro e w8 ⟨rfl, hb8⟩
  go_wp2_with fail
  go_ret
  exact ⟨rfl, cur_step1 (cur_step1 HB6.out hb7) hb8⟩
end Go.Proofs.YtpninpohligomaaGreatDoor
