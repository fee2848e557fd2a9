/-
  Chapter 55: EqualFunc of matches and appointments; what Accept answers.
-/
import Derived.Test.YtckbhdokfkabfaaFnd55
import Derived.Test.YtckbhdokfkabfaaRf55
set_option linter.unusedSimpArgs false
set_option linter.unusedVariables false
namespace Go.Proofs.Ytckbhdokfkabfaa
open Go.RowKit
set_option maxRecDepth 100000
set_option maxHeartbeats 4000000
def amN (M : List Dty) (L : List Apd) (k : Nat) : Int := match M[k]?, L[k]? with
  | some x, some z => if (x.m == z.m) = true then 0 else 1
  | _, _ => 0
/-- The matches' numbers are those of the appointments. -/
def eqM (M : List Dty) (L : List Apd) : Bool := decide (M.length = L.length) && decide (resW (amN M L) (scan (amN M L) M.length) = 0)
theorem eqf_p (A C : Option Addr) (c e : Nat) (M : List Dty) (L : List Apd) (v : Bool) (w : World) (hl : M.length ≤ 1000000) (hL : L.length ≤ 1000000) (hr : Rd dtE 4 w w.heap.size A M) (hrL : Rd apE 3 w w.heap.size C L) (hv : eqM M L = v) :
    Calls Try.prog 46 #[.slice A M.length c, .slice C L.length e, .func (.func 47) #[] #[]] w fun e w' => e = .returned (.bool v) ∧ Below w.heap.size w w' := by
  have HR := Lib.hid hr
  have HRL := Lib.hid hrL
  have HV := Lib.hid hv
  clear hr hrL hv
  go_enter Try.func46, Try.ntmps46
  by_cases he : M.length = L.length
  · have HE := Lib.hid he
    have hei : (M.length : Int) = (L.length : Int) := by omega
    have HV1 := Lib.hid (show decide (resW (amN M L) (scan (amN M L) M.length) = 0) = v by rw [← HV.out]; unfold eqM; rw [decide_eq_true he, Bool.true_and])
    clear HV
    obtain ⟨n, hn⟩ : ∃ n, M.length = n := ⟨_, rfl⟩
    have HLn := Lib.hid (show L.length = n by omega)
    rw [hn] at HV1 hl
    rw [hn, HLn.out]
    clear he hei
    go_wp2
    go_loopw [17] (fun i wr => ∃ k : Nat, k ≤ n ∧ i = .int .i64 k ∧ (∀ j, j < k → amN M L j = 0) ∧ Below w.heap.size w wr) (fun i _ => n - (intOf i).toNat)
    case atStart => exact ⟨0, by omega, rfl, fun j h => by omega, Below.refl _ _⟩
    case round =>
      obtain ⟨k, hk, rfl, hno, hB⟩ := hrel
      have HNO := Lib.hid hno
      have HB := Lib.hid hB
      clear hno hB
      by_cases hlt : k < n
      · obtain ⟨x, hx⟩ : ∃ x, M[k]? = some x := ⟨_, List.getElem?_eq_getElem (by omega)⟩
        obtain ⟨z, hz⟩ : ∃ z, L[k]? = some z := ⟨_, List.getElem?_eq_getElem (by have := HLn.out; omega)⟩
        obtain ⟨b, off, hA, hbb, hcl⟩ := HR.out.at_ HB.out hx
        obtain ⟨b2, off2, hC, hbb2, hcl2⟩ := HRL.out.at_ HB.out hz
        obtain ⟨c0, c1, c2, c3⟩ := dt_cells hcl
        obtain ⟨d0, d1, d2⟩ := ap_cells hcl2
        have hbw : b < wr.heap.size := Nat.lt_of_lt_of_le hbb HB.out.size
        have hbw2 : b2 < wr.heap.size := Nat.lt_of_lt_of_le hbb2 HB.out.size
        have HAM := Lib.hid (show amN M L k = if (x.m == z.m) = true then 0 else 1 by simp [amN, hx, hz])
        obtain ⟨v1, hv1⟩ : ∃ v1, (x.m == z.m) = v1 := ⟨_, rfl⟩
        rw [hv1] at HAM
        have HC := Lib.hid (fun w' => lit4_p x z v1 w' hv1)
        obtain ⟨xm, xd, xh, xa⟩ := x
        obtain ⟨zm, zo, zt⟩ := z
        dsimp only at c0 c1 c2 c3 d0 d1 d2
        simp only [dtE, apE] at HC
        subst hA hC
        clear hcl hcl2 hx hz hv1 hbb hbb2
        go_upto_region 6 with (fail)
        have h3 := cur_new wr (.cells #[.int .i64 xm, .int .i64 xd, .string xh, .string xa] 29)
        have k3 := Blk.new wr 29 [.int .i64 xm, .int .i64 xd, .string xh, .string xa]
        generalize wr.alloc (.cells #[.int .i64 xm, .int .i64 xd, .string xh, .string xa] 29) = w3 at h3 k3 ⊢
        obtain ⟨g3, hg3⟩ : ∃ g, wr.heap.size = g := ⟨_, rfl⟩
        rw [hg3] at k3 ⊢
        have d0 := (h3.cell (p := ⟨b2, off2 + k * 3, none⟩) hbw2).trans d0
        have d1 := (h3.cell (p := ⟨b2, off2 + k * 3 + 1, none⟩) hbw2).trans d1
        have d2 := (h3.cell (p := ⟨b2, off2 + k * 3 + 2, none⟩) hbw2).trans d2
        have hbw3 : b2 < w3.heap.size := Nat.lt_of_lt_of_le hbw2 h3.size
        have HB3 := Lib.hid (cur_step1 HB.out h3)
        have HK3 := Lib.hid k3
        clear h3 k3 hg3 c0 c1 c2 c3 hbw hbw2 HB
        go_upto_region 7 with (fail)
        have h4 := cur_new w3 (.cells #[.int .i64 zm, .string zo, .string zt] 43)
        have k4 := Blk.new w3 43 [.int .i64 zm, .string zo, .string zt]
        have HK34 := Lib.hid (HK3.out.to h4)
        generalize w3.alloc (.cells #[.int .i64 zm, .string zo, .string zt] 43) = w4 at h4 k4 HK34 ⊢
        obtain ⟨g4, hg4⟩ : ∃ g, w3.heap.size = g := ⟨_, rfl⟩
        rw [hg4] at k4 ⊢
        have HB4 := Lib.hid (cur_step1 HB3.out h4)
        have a0 : w4.cell? ⟨g3, 0, none⟩ = some (.int .i64 xm) := HK34.out.cell 0
        have a1 : w4.cell? ⟨g3, 1, none⟩ = some (.int .i64 xd) := HK34.out.cell 1
        have a2 : w4.cell? ⟨g3, 2, none⟩ = some (.string xh) := HK34.out.cell 2
        have a3 : w4.cell? ⟨g3, 3, none⟩ = some (.string xa) := HK34.out.cell 3
        have b0 : w4.cell? ⟨g4, 0, none⟩ = some (.int .i64 zm) := k4.cell 0
        have b1 : w4.cell? ⟨g4, 1, none⟩ = some (.string zo) := k4.cell 1
        have b2' : w4.cell? ⟨g4, 2, none⟩ = some (.string zt) := k4.cell 2
        clear h4 k4 hg4 d0 d1 d2 HB3
        cases v1
        · have HE := Lib.hid (show false = v by
            have hb : amN M L k = 1 := by rw [HAM.out]; rfl
            rw [← HV1.out, res_of HNO.out hlt (by rw [hb]; decide), hb]; rfl)
          go_wp2_with (go_at_call 47; refine (HC.out _).mono ?_; rintro e w5 ⟨rfl, hb5⟩; have HB5 := Lib.hid (cur_step1 HB4.out hb5); clear hb5)
          go_ret
          exact ⟨ret_bool HE.out, HB5.out⟩
        · have HNX := Lib.hid (show ∀ j, j < k + 1 → amN M L j = 0 from fun j hj => by
            by_cases e : j = k
            · rw [e, HAM.out]; rfl
            · exact HNO.out j (by omega))
          go_wp2_with (go_at_call 47; refine (HC.out _).mono ?_; rintro e w5 ⟨rfl, hb5⟩; have HB5 := Lib.hid (cur_step1 HB4.out hb5); clear hb5)
          first
          | (go_roundw
             case rel => exact ⟨k + 1, hlt, by simp, HNX.out, HB5.out⟩
             case measure => simp [intOf]; omega)
          | exact ⟨⟨k + 1, hlt, by simp, HNX.out, HB5.out⟩, by simp [intOf]; omega⟩
      · have HE := Lib.hid (show true = v by rw [← HV1.out, res_end (fun j hj => HNO.out j (by omega))]; rfl)
        go_wp2
        go_ret
        exact ⟨ret_bool HE.out, HB.out⟩
  · have hei : ¬ (M.length : Int) = (L.length : Int) := by omega
    have HE := Lib.hid (show false = v by rw [← HV.out]; unfold eqM; rw [decide_eq_false he, Bool.false_and])
    go_wp2_with fail
    go_ret
    exact ⟨ret_bool HE.out, Below.refl _ _⟩
theorem short_p (C : Option Addr) (e : Nat) (L : List Apd) (w : World) (hl : L.length ≤ e) (he : e ≤ 9223372036854775807) :
    Calls Try.prog 23 #[.slice C L.length e] w fun r w' => r = .returned (.slice C (L.take 6).length e) ∧ w = w' := by
  have hmin : min (L.length : Int) 6 = ((L.take 6).length : Nat) := by rw [List.length_take]; omega
  obtain ⟨n, hn⟩ : ∃ n, L.length = n := ⟨_, rfl⟩
  obtain ⟨m, hm⟩ : ∃ m, (L.take 6).length = m := ⟨_, rfl⟩
  have hmn : m = min 6 n := by rw [← hm, List.length_take, hn]
  rw [hm, hn] at hmin
  rw [hn] at hl
  rw [hn, hm]
  have h1 : (m : Int) ≤ e := by omega
  have h2 : ¬ (e : Int) < m := by omega
  clear hn hm hmn
  go_enter Try.func23, Try.ntmps23
  go_wp2_with fail
  go_ret
  exact ⟨by simp, rfl⟩
end Go.Proofs.Ytckbhdokfkabfaa
