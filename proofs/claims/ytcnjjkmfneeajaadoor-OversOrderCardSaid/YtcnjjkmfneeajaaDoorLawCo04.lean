/-
  OversCompares, OversOrder: the walks.
-/
import Derived.Test.YtcnjjkmfneeajaaDoorAwk04
namespace Go.Proofs.YtcnjjkmfneeajaaDoor
open Go.RowKit
set_option maxRecDepth 100000
set_option maxHeartbeats 1000000

theorem law_compares (a b c d : Int) (w : World) (hw : LibW w) : Calls Tryd.prog 4 #[.agg #[.int .i64 a, .int .i64 b, .int .i64 c, .int .i64 d]] w fun e w' => e = .returned (.bool true) ∧ Below w.heap.size w w' := by
  obtain ⟨x, y, hv⟩ : ∃ x y, compareP a b c d = (x, y) := ⟨_, _, rfl⟩
  have HV := Lib.hid hv
  have HW := Lib.hid (hw.to ((Below.refl w.heap.size w).alloc (Nat.le_refl _) (.cells #[.int .i64 a, .int .i64 b, .int .i64 c, .int .i64 d] 31)))
  clear hw hv
  go_enter Tryd.func4, Tryd.ntmps4
  go_wp2_with (fail)
  go_at_call 10
  refine (awake_p _ HW.out).mono ?_
  rintro e w1 ⟨rfl, hb1⟩
  have A1 := (Blk.new w 31 [.int .i64 a, .int .i64 b, .int .i64 c, .int .i64 d]).to hb1
  have B1 := Lib.hid (((Below.refl w.heap.size w).alloc (Nat.le_refl _) (.cells #[.int .i64 a, .int .i64 b, .int .i64 c, .int .i64 d] 31)).trans (hb1.mono (by simp)))
  have k0 : w1.cell? ⟨w.heap.size, 0, none⟩ = some (.int .i64 a) := A1.cell 0
  have k1 : w1.cell? ⟨w.heap.size, 1, none⟩ = some (.int .i64 b) := A1.cell 1
  have k2 : w1.cell? ⟨w.heap.size, 2, none⟩ = some (.int .i64 c) := A1.cell 2
  have k3 : w1.cell? ⟨w.heap.size, 3, none⟩ = some (.int .i64 d) := A1.cell 3
  have HA := Lib.hid A1
  clear hb1 A1
  go_wp2_with (fail)
  go_at_call 17
  refine (compare_p _ _ _ _ _).mono ?_
  rintro e w2 ⟨rfl, hb2⟩
  rw [HV.out]
  have A2 := HA.out.to hb2
  have B2 := Lib.hid (B1.out.trans (hb2.mono B1.out.size))
  have j0 : w2.cell? ⟨w.heap.size, 0, none⟩ = some (.int .i64 a) := A2.cell 0
  have j1 : w2.cell? ⟨w.heap.size, 1, none⟩ = some (.int .i64 b) := A2.cell 1
  have j2 : w2.cell? ⟨w.heap.size, 2, none⟩ = some (.int .i64 c) := A2.cell 2
  have j3 : w2.cell? ⟨w.heap.size, 3, none⟩ = some (.int .i64 d) := A2.cell 3
  clear hb2 A2
  go_wp2_with (fail)
  go_at_call 18
  refine (compare_r _ _ _ _ _).mono ?_
  rintro e w3 ⟨rfl, hb3⟩
  rw [HV.out]
  have B3 := Lib.hid (B2.out.trans (hb3.mono B2.out.size))
  clear hb3
  go_wp2_with (fail)
  go_ret
  exact ⟨ret_bool (by simp), B3.out⟩

theorem cmpI_scale {x y k : Int} (h : 0 < k) : cmpI (x * k) (y * k) = cmpI x y := by
  have h1 : (x * k < y * k) ↔ x < y := ⟨fun t => Int.lt_of_mul_lt_mul_right t (by omega), fun t => Int.mul_lt_mul_of_pos_right t h⟩
  have h2 : (y * k < x * k) ↔ y < x := ⟨fun t => Int.lt_of_mul_lt_mul_right t (by omega), fun t => Int.mul_lt_mul_of_pos_right t h⟩
  unfold cmpI
  simp only [h1, h2]
theorem cmp_rates (a b c d p : Nat) (hb : 0 < b) (hd : 0 < d) (hp : 0 < p) :
    cmpI ((a * p / Nat.gcd (a * p) b * (d / Nat.gcd (c * p) d) : Nat)) ((c * p / Nat.gcd (c * p) d * (b / Nat.gcd (a * p) b) : Nat)) = cmpI ((a : Int) * d) ((c : Int) * b) := by
  obtain ⟨g, hg⟩ : ∃ g, Nat.gcd (a * p) b = g := ⟨_, rfl⟩
  obtain ⟨k, hk⟩ : ∃ k, Nat.gcd (c * p) d = k := ⟨_, rfl⟩
  have g0 : 0 < g := by rw [← hg]; exact Nat.gcd_pos_of_pos_right _ hb
  have k0 : 0 < k := by rw [← hk]; exact Nat.gcd_pos_of_pos_right _ hd
  have e1 : a * p / g * g = a * p := Nat.div_mul_cancel (by rw [← hg]; exact Nat.gcd_dvd_left _ _)
  have e2 : b / g * g = b := Nat.div_mul_cancel (by rw [← hg]; exact Nat.gcd_dvd_right _ _)
  have e3 : c * p / k * k = c * p := Nat.div_mul_cancel (by rw [← hk]; exact Nat.gcd_dvd_left _ _)
  have e4 : d / k * k = d := Nat.div_mul_cancel (by rw [← hk]; exact Nat.gcd_dvd_right _ _)
  rw [hg, hk]
  generalize a * p / g = N1 at *
  generalize b / g = D1 at *
  generalize c * p / k = N2 at *
  generalize d / k = D2 at *
  have hgk : (0 : Int) < ((g * k : Nat) : Int) := by have := Nat.mul_pos g0 k0; omega
  have hpp : (0 : Int) < (p : Int) := by omega
  rw [← cmpI_scale hgk, ← cmpI_scale (x := (a : Int) * d) hpp]
  have f1 : N1 * D2 * (g * k) = a * d * p := by
    calc N1 * D2 * (g * k) = (N1 * g) * (D2 * k) := by ac_rfl
      _ = a * p * d := by rw [e1, e4]
      _ = a * d * p := by ac_rfl
  have f2 : N2 * D1 * (g * k) = c * b * p := by
    calc N2 * D1 * (g * k) = (N2 * k) * (D1 * g) := by ac_rfl
      _ = c * p * b := by rw [e3, e2]
      _ = c * b * p := by ac_rfl
  rw [← Int.natCast_mul, f1, ← Int.natCast_mul, f2]
  simp only [Int.natCast_mul]
theorem rate_nat {A B P : Nat} (h : rateB A B P = true) : ∃ N D : Nat, rateV A B P = ratV N D ∧ rateE A B P = 0 ∧ N = A * P / Nat.gcd (A * P) B ∧ D = B / Nat.gcd (A * P) B ∧ N ≤ 1000000000 ∧ D ≤ 1000000000 ∧ 1 ≤ D ∧ Nat.gcd N D = 1 := by
  have hu := h
  unfold rateB at hu
  rw [Bool.and_eq_true] at hu
  obtain ⟨a1, a2, a3, a4⟩ := usable_rng hu.1
  have hpr : 1 ≤ (P : Int) ∧ (P : Int) ≤ 8 := by have := hu.2; unfold knownB at this; simpa using this
  have m : A * P ≤ 1000000 * 8 := Nat.mul_le_mul (by omega) (by omega)
  have g0 : 0 < Nat.gcd (A * P) B := Nat.gcd_pos_of_pos_right _ (by omega)
  refine ⟨_, _, ?_, by unfold rateE; rw [h]; rfl, rfl, rfl, ?_, ?_, ?_, ?_⟩
  · unfold rateV
    rw [h, if_pos rfl, ← Int.natCast_mul, Int.toNat_natCast, Int.toNat_natCast]
  · exact Nat.le_trans (Nat.div_le_self _ _) (by omega)
  · exact Nat.le_trans (Nat.div_le_self _ _) (by omega)
  · rw [Nat.le_div_iff_mul_le g0, Nat.one_mul]; exact Nat.le_of_dvd (by omega) (Nat.gcd_dvd_right _ _)
  · exact Nat.gcd_div_gcd_div_gcd_of_pos_right (by omega)
theorem rateV_agg (a b c : Int) : ∃ r s : Nat, rateV a b c = .agg #[.int .i64 r, .int .i64 s] := by
  unfold rateV ratV
  split
  · exact ⟨_, _, rfl⟩
  · exact ⟨_, _, rfl⟩

theorem law_order (a b c d per : Int) (w : World) (hw : LibW w) : Calls Tryd.prog 7 #[.agg #[.int .i64 a, .int .i64 b, .int .i64 c, .int .i64 d], .int .i64 per] w fun e w' => e = .returned (.bool true) ∧ Below w.heap.size w w' := by
  obtain ⟨x, y, hv⟩ : ∃ x y, compareP a b c d = (x, y) := ⟨_, _, rfl⟩
  obtain ⟨N1, D1, hr1⟩ := rateV_agg a b per
  obtain ⟨N2, D2, hr2⟩ := rateV_agg c d per
  obtain ⟨e1, he1⟩ : ∃ e1, rateE a b per = e1 := ⟨_, rfl⟩
  obtain ⟨e2, he2⟩ : ∃ e2, rateE c d per = e2 := ⟨_, rfl⟩
  have hfin : (y = 2) ∨ (y = 0 ∧ (per < 1 ∨ 8 < per) ∧ e1 = 2) ∨ (y = 0 ∧ e1 = 0 ∧ e2 = 0 ∧ N1 ≤ 1000000000 ∧ D1 ≤ 1000000000 ∧ 1 ≤ D1 ∧ Nat.gcd N1 D1 = 1 ∧ N2 ≤ 1000000000 ∧ D2 ≤ 1000000000 ∧ 1 ≤ D2 ∧ Nat.gcd N2 D2 = 1 ∧ cmpI (N1 * D2 : Nat) (N2 * D1 : Nat) = x) := by
    have hv2 := hv
    unfold compareP at hv2
    by_cases hu : (usableB a b && usableB c d) = true
    · rw [if_pos hu, Prod.mk.injEq] at hv2
      obtain ⟨hx, hy⟩ := hv2
      rw [Bool.and_eq_true] at hu
      right
      cases hk : knownB per with
      | false =>
        left
        refine ⟨hy.symm, ?_, ?_⟩
        · unfold knownB at hk
          simp only [Bool.and_eq_false_iff, decide_eq_false_iff_not] at hk
          omega
        · rw [← he1]; unfold rateE rateB; rw [hk, Bool.and_false]; rfl
      | true =>
        right
        obtain ⟨a1, a2, a3, a4⟩ := usable_rng hu.1
        obtain ⟨c1, c2, c3, c4⟩ := usable_rng hu.2
        have hpr : 1 ≤ per ∧ per ≤ 8 := by unfold knownB at hk; simpa using hk
        obtain ⟨A, rfl⟩ : ∃ A : Nat, a = A := ⟨a.toNat, by omega⟩
        obtain ⟨B, rfl⟩ : ∃ B : Nat, b = B := ⟨b.toNat, by omega⟩
        obtain ⟨C, rfl⟩ : ∃ C : Nat, c = C := ⟨c.toNat, by omega⟩
        obtain ⟨D, rfl⟩ : ∃ D : Nat, d = D := ⟨d.toNat, by omega⟩
        obtain ⟨P, rfl⟩ : ∃ P : Nat, per = P := ⟨per.toNat, by omega⟩
        obtain ⟨n1, d1, q1, q2, q3, q4, q5, q6, q7, q8⟩ := rate_nat (A := A) (B := B) (P := P) (by unfold rateB; rw [hu.1, hk]; rfl)
        obtain ⟨n2, d2, r1, r2, r3, r4, r5, r6, r7, r8⟩ := rate_nat (A := C) (B := D) (P := P) (by unfold rateB; rw [hu.2, hk]; rfl)
        rw [hr1] at q1
        rw [hr2] at r1
        simp only [ratV, Value.agg.injEq, Array.mk.injEq, List.cons.injEq, Value.int.injEq, true_and, and_true, Int.ofNat_inj] at q1 r1
        obtain ⟨rfl, rfl⟩ := q1
        obtain ⟨rfl, rfl⟩ := r1
        refine ⟨hy.symm, he1.symm.trans q2, he2.symm.trans r2, q5, q6, q7, q8, r5, r6, r7, r8, ?_⟩
        rw [← hx, q3, q4, r3, r4]
        exact cmp_rates A B C D P (by omega) (by omega) (by omega)
    · rw [if_neg hu, Prod.mk.injEq] at hv2
      exact .inl hv2.2.symm
  have HV := Lib.hid hv
  have HR1 := Lib.hid hr1
  have HR2 := Lib.hid hr2
  have HE1 := Lib.hid he1
  have HE2 := Lib.hid he2
  have HF := Lib.hid hfin
  have HW := Lib.hid (hw.to ((Below.refl w.heap.size w).alloc (Nat.le_refl _) (.cells #[.int .i64 a, .int .i64 b, .int .i64 c, .int .i64 d] 31)))
  clear hw hv hr1 hr2 he1 he2 hfin
  go_enter Tryd.func7, Tryd.ntmps7
  go_wp2_with (fail)
  go_at_call 10
  refine (awake_p _ HW.out).mono ?_
  rintro e w1 ⟨rfl, hb1⟩
  have A1 := (Blk.new w 31 [.int .i64 a, .int .i64 b, .int .i64 c, .int .i64 d]).to hb1
  have B1 := Lib.hid (((Below.refl w.heap.size w).alloc (Nat.le_refl _) (.cells #[.int .i64 a, .int .i64 b, .int .i64 c, .int .i64 d] 31)).trans (hb1.mono (by simp)))
  have k0 : w1.cell? ⟨w.heap.size, 0, none⟩ = some (.int .i64 a) := A1.cell 0
  have k1 : w1.cell? ⟨w.heap.size, 1, none⟩ = some (.int .i64 b) := A1.cell 1
  have k2 : w1.cell? ⟨w.heap.size, 2, none⟩ = some (.int .i64 c) := A1.cell 2
  have k3 : w1.cell? ⟨w.heap.size, 3, none⟩ = some (.int .i64 d) := A1.cell 3
  have HA := Lib.hid A1
  clear hb1 A1
  go_wp2_with (fail)
  go_at_call 17
  refine (compare_p _ _ _ _ _).mono ?_
  rintro e w2 ⟨rfl, hb2⟩
  rw [HV.out]
  have A2 := HA.out.to hb2
  have B2 := Lib.hid (B1.out.trans (hb2.mono B1.out.size))
  have j0 : w2.cell? ⟨w.heap.size, 0, none⟩ = some (.int .i64 a) := A2.cell 0
  have j1 : w2.cell? ⟨w.heap.size, 1, none⟩ = some (.int .i64 b) := A2.cell 1
  have HA2 := Lib.hid A2
  clear hb2 A2 k0 k1 k2 k3
  go_wp2_with (fail)
  go_at_call 21
  refine (rate_p _ _ _ _).mono ?_
  rintro e w3 ⟨rfl, hb3⟩
  rw [HR1.out, HE1.out]
  have HA3 := Lib.hid (HA2.out.to hb3)
  have B3 := Lib.hid (B2.out.trans (hb3.mono B2.out.size))
  clear hb3 j0 j1
  have b33 : Below w3.heap.size w3 (w3.alloc (.cells #[.int .i64 N1, .int .i64 D1] 38)) := (Below.refl w3.heap.size w3).alloc (Nat.le_refl _) _
  have R3 := Lib.hid (Blk.new w3 38 [.int .i64 N1, .int .i64 D1])
  have A3 := HA3.out.to b33
  have j2 : (w3.alloc (.cells #[.int .i64 N1, .int .i64 D1] 38)).cell? ⟨w.heap.size, 2, none⟩ = some (.int .i64 c) := A3.cell 2
  have j3 : (w3.alloc (.cells #[.int .i64 N1, .int .i64 D1] 38)).cell? ⟨w.heap.size, 3, none⟩ = some (.int .i64 d) := A3.cell 3
  have B33 := Lib.hid (B3.out.trans (b33.mono B3.out.size))
  clear b33 A3
  go_wp2_with (fail)
  go_at_call 21
  refine (rate_p _ _ _ _).mono ?_
  rintro e w4 ⟨rfl, hb4⟩
  rw [HR2.out, HE2.out]
  have R4 := Lib.hid (R3.out.to hb4)
  have B4 := Lib.hid (B33.out.trans (hb4.mono B33.out.size))
  clear hb4 j2 j3
  have b44 : Below w4.heap.size w4 (w4.alloc (.cells #[.int .i64 N2, .int .i64 D2] 38)) := (Below.refl w4.heap.size w4).alloc (Nat.le_refl _) _
  have S4 := Lib.hid (Blk.new w4 38 [.int .i64 N2, .int .i64 D2])
  have R44 := R4.out.to b44
  have m0 : (w4.alloc (.cells #[.int .i64 N2, .int .i64 D2] 38)).cell? ⟨w3.heap.size, 0, none⟩ = some (.int .i64 N1) := R44.cell 0
  have m1 : (w4.alloc (.cells #[.int .i64 N2, .int .i64 D2] 38)).cell? ⟨w3.heap.size, 1, none⟩ = some (.int .i64 D1) := R44.cell 1
  have B44 := Lib.hid (B4.out.trans (b44.mono B4.out.size))
  clear b44 R44
  rcases HF.out with hf | ⟨hf1, hf2, hf3⟩ | ⟨hf1, hf2, hf3, n1, n2, n3, n4, n5, n6, n7, n8, n9⟩
  · subst hf
    clear HF
    go_wp2_with (fail)
    go_ret
    exact ⟨rfl, B44.out⟩
  · subst hf1 hf3
    clear HF
    rcases hf2 with hf2 | hf2
    · go_wp2_with (fail)
      all_goals
        go_ret
        exact ⟨ret_bool (by simp <;> omega), B44.out⟩
    · go_wp2_with (fail)
      all_goals
        go_ret
        exact ⟨ret_bool (by simp <;> omega), B44.out⟩
  · subst hf1 hf2 hf3
    have N9 := Lib.hid n9
    have NG1 := Lib.hid n4
    have NG2 := Lib.hid n8
    clear HF n9 n4 n8
    go_wp2_with (fail)
    go_at_call 22
    refine (cmp_p N1 D1 N2 D2 n3 n2 n1 NG1.out n7 n6 n5 NG2.out _).mono ?_
    rintro e w5 ⟨rfl, hb5⟩
    rw [N9.out]
    have B5 := Lib.hid (B44.out.trans (hb5.mono B44.out.size))
    clear hb5
    go_wp2_with (fail)
    go_ret
    exact ⟨ret_bool (by simp), B5.out⟩
end Go.Proofs.YtcnjjkmfneeajaaDoor
