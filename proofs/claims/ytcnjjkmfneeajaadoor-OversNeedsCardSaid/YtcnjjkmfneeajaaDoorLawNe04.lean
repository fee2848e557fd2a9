/-
  OversNeeds, OversRates, OversCompares: the walks.
-/
import Derived.Test.YtcnjjkmfneeajaaDoorAwk04
namespace Go.Proofs.YtcnjjkmfneeajaaDoor
open Go.RowKit
set_option maxRecDepth 100000
set_option maxHeartbeats 1000000

theorem law_rates (a b c : Int) (w : World) (hw : LibW w) : Calls Tryd.prog 8 #[.int .i64 a, .int .i64 b, .int .i64 c] w fun e w' => e = .returned (.bool true) ∧ Below w.heap.size w w' := by
  obtain ⟨x, y, hv⟩ : ∃ x y, neededP a b c = (x, y) := ⟨_, _, rfl⟩
  obtain ⟨r, s, hr⟩ : ∃ r s : Nat, rateV a b c = .agg #[.int .i64 r, .int .i64 s] := by
    unfold rateV ratV
    split
    · exact ⟨_, _, rfl⟩
    · exact ⟨_, _, rfl⟩
  obtain ⟨z, hz⟩ : ∃ z, rateE a b c = z := ⟨_, rfl⟩
  have HV := Lib.hid hv
  have HR := Lib.hid hr
  have HZ := Lib.hid hz
  have HW := Lib.hid hw
  clear hw hv hr hz
  go_enter Tryd.func8, Tryd.ntmps8
  go_wp2_with (fail)
  go_at_call 10
  refine (awake_p _ HW.out).mono ?_
  rintro e w1 ⟨rfl, hb1⟩
  have B1 := Lib.hid hb1
  clear hb1
  go_wp2_with (fail)
  go_at_call 21
  refine (rate_p _ _ _ _).mono ?_
  rintro e w2 ⟨rfl, hb2⟩
  rw [HR.out, HZ.out]
  have B2 := Lib.hid (B1.out.trans (hb2.mono B1.out.size))
  clear hb2
  go_wp2_with (fail)
  go_at_call 23
  refine (rate_r _ _ _ _).mono ?_
  rintro e w3 ⟨rfl, hb3⟩
  rw [HR.out, HZ.out]
  have A3 := Lib.hid ((Blk.new w2 38 [.int .i64 r, .int .i64 s]).to hb3)
  have B3 := Lib.hid (B2.out.trans (((Below.refl w2.heap.size w2).alloc (Nat.le_refl _) (.cells #[.int .i64 r, .int .i64 s] 38)).trans (hb3.mono (by simp)) |>.mono B2.out.size))
  clear hb3
  go_wp2_with (fail)
  go_at_call 24
  refine (needed_p _ _ _ _).mono ?_
  rintro e w4 ⟨rfl, hb4⟩
  rw [HV.out]
  have A4 := Lib.hid ((A3.out.to ((Below.refl w3.heap.size w3).alloc (Nat.le_refl _) (.cells #[.int .i64 r, .int .i64 s] 38))).to hb4)
  have C4 := Lib.hid ((Blk.new w3 38 [.int .i64 r, .int .i64 s]).to hb4)
  have B4 := Lib.hid (B3.out.trans (((Below.refl w3.heap.size w3).alloc (Nat.le_refl _) (.cells #[.int .i64 r, .int .i64 s] 38)).trans (hb4.mono (by simp)) |>.mono B3.out.size))
  clear hb4
  go_wp2_with (fail)
  go_at_call 25
  refine (needed_r _ _ _ _).mono ?_
  rintro e w5 ⟨rfl, hb5⟩
  rw [HV.out]
  have A5 := A4.out.to hb5
  have C5 := C4.out.to hb5
  have B5 := Lib.hid (B4.out.trans (hb5.mono B4.out.size))
  have k0 : w5.cell? ⟨w2.heap.size, 0, none⟩ = some (.int .i64 r) := A5.cell 0
  have k1 : w5.cell? ⟨w2.heap.size, 1, none⟩ = some (.int .i64 s) := A5.cell 1
  have k2 : w5.cell? ⟨w3.heap.size, 0, none⟩ = some (.int .i64 r) := C5.cell 0
  have k3 : w5.cell? ⟨w3.heap.size, 1, none⟩ = some (.int .i64 s) := C5.cell 1
  clear hb5 A5 C5
  go_wp2_with (fail)
  all_goals try go_quiet (fail)
  all_goals try go_wp2
  go_ret
  exact ⟨ret_bool (by simp), by first | exact B5.out | exact B5.out.trans ((below_n _).mono B5.out.size)⟩

theorem law_needs (a b c : Int) (w : World) (hw : LibW w) : Calls Tryd.prog 9 #[.int .i64 a, .int .i64 b, .int .i64 c] w fun e w' => e = .returned (.bool true) ∧ Below w.heap.size w w' := by
  obtain ⟨x, y, hv⟩ : ∃ x y, neededP a b c = (x, y) := ⟨_, _, rfl⟩
  have HV := Lib.hid hv
  have HW := Lib.hid hw
  clear hw
  by_cases hy : usableB a b = true ∧ knownB c = true
  · obtain ⟨h1, h2⟩ := hy
    obtain ⟨a1, a2, a3, a4⟩ := usable_rng h1
    have hpr : 1 ≤ c ∧ c ≤ 8 := by unfold knownB at h2; simpa using h2
    obtain ⟨m1, m2⟩ := prod_rng a1 a2 (by omega : 0 ≤ c) (by omega)
    obtain ⟨p1, p2⟩ := hpr
    unfold neededP at hv
    rw [h1, h2, Bool.and_self, if_pos rfl] at hv
    simp only [Prod.mk.injEq] at hv
    obtain ⟨hx, rfl⟩ := hv
    have he := Int.mul_ediv_add_emod (a * c + b - 1) b
    have h0 := Int.emod_nonneg (a * c + b - 1) (show b ≠ 0 by omega)
    have hl := Int.emod_lt_of_pos (a * c + b - 1) (show 0 < b by omega)
    have hx0 : 0 ≤ x := by rw [← hx]; exact Int.ediv_nonneg (by omega) (by omega)
    have hx1 : x ≤ 1000001000000 := by rw [← hx]; exact Int.le_trans (Int.ediv_le_self _ (by omega)) (by omega)
    rw [hx, Int.mul_comm] at he
    have hxb0 : 0 ≤ x * b := Int.mul_nonneg hx0 (by omega)
    have hp : (x - 1) * b = x * b - b := by rw [Int.sub_mul, Int.one_mul]
    obtain ⟨z, hz⟩ : ∃ z, x * b = z := ⟨_, rfl⟩
    rw [hz] at he hp hxb0
    have l1 : a * c ≤ z := by omega
    have l2 : z - b < a * c := by omega
    have l3 : z ≤ 1000003000000 := by omega
    clear he h0 hl hx h1 h2
    go_enter Tryd.func9, Tryd.ntmps9
    go_wp2_with (fail)
    go_at_call 10
    refine (awake_p _ HW.out).mono ?_
    rintro e w1 ⟨rfl, hb1⟩
    have B1 := Lib.hid hb1
    clear hb1
    go_wp2_with (fail)
    go_at_call 24
    refine (needed_p _ _ _ _).mono ?_
    rintro e w2 ⟨rfl, hb2⟩
    rw [HV.out]
    have B2 := Lib.hid (B1.out.trans (hb2.mono B1.out.size))
    clear hb2
    by_cases hx00 : x = 0
    · subst hx00
      go_wp2_with (fail)
      go_ret
      exact ⟨ret_bool (by simp <;> omega), B2.out⟩
    · go_wp2_with (fail)
      all_goals
        go_ret
        exact ⟨ret_bool (by simp <;> omega), B2.out⟩
  · have hx : x = 0 ∧ y = 2 := by
      unfold neededP at hv
      rw [if_neg (by simpa using hy)] at hv
      simp only [Prod.mk.injEq] at hv
      exact ⟨hv.1.symm, hv.2.symm⟩
    obtain ⟨rfl, rfl⟩ := hx
    clear hv hy
    go_enter Tryd.func9, Tryd.ntmps9
    go_wp2_with (fail)
    go_at_call 10
    refine (awake_p _ HW.out).mono ?_
    rintro e w1 ⟨rfl, hb1⟩
    have B1 := Lib.hid hb1
    clear hb1
    go_wp2_with (fail)
    go_at_call 24
    refine (needed_p _ _ _ _).mono ?_
    rintro e w2 ⟨rfl, hb2⟩
    rw [HV.out]
    have B2 := Lib.hid (B1.out.trans (hb2.mono B1.out.size))
    clear hb2
    go_wp2_with (fail)
    go_ret
    exact ⟨rfl, B2.out⟩
end Go.Proofs.YtcnjjkmfneeajaaDoor
