/-
  exact.Make, Valid, Cmp, those of the reference; Rate.
-/
import Derived.Test.YtcnjjkmfneeajaaDoorGcd04
import Derived.Test.YtcnjjkmfneeajaaDoorStr
import Derived.BigRegion
import Derived.RegionTactic
namespace Go.Proofs.YtcnjjkmfneeajaaDoor
open Go.RowKit
set_option maxRecDepth 100000
set_option maxHeartbeats 1000000

def ratV (n d : Nat) : Value := .agg #[.int .i64 n, .int .i64 d]
theorem rat_info : (Tryd.prog.info? 38).map (·.size) = some 2 := by kernel_rfl
theorem make_p (n d : Nat) (hn : n ≤ 1000000000) (h0 : 1 ≤ d) (hd : d ≤ 1000000000) (w : World) : Calls Tryd.prog 37 #[.int .i64 n, .int .i64 d] w fun e w' => e = .returned (.tuple #[ratV (n / Nat.gcd n d) (d / Nat.gcd n d), .int .i64 0]) ∧ Below w.heap.size w w' := by
  obtain ⟨g, hg⟩ : ∃ g, Nat.gcd n d = g := ⟨_, rfl⟩
  have hg0 : 0 < g := by rw [← hg]; exact Nat.gcd_pos_of_pos_right _ (by omega)
  rw [hg]
  have HG := Lib.hid hg
  clear hg
  have f0 : ¬ (d : Int) = 0 := by omega
  have f1 : ((n : Int) == -9223372036854775808) = false := by rw [beq_eq_false_iff_ne]; omega
  have f2 : ((d : Int) == -9223372036854775808) = false := by rw [beq_eq_false_iff_ne]; omega
  have hgne : (g : Int) ≠ 0 := by omega
  have d1 : Int.tdiv (n : Int) g = (n / g : Nat) := by rw [Int.tdiv_eq_ediv_of_nonneg (by omega)]; rfl
  have d2 : Int.tdiv (d : Int) g = (d / g : Nat) := by rw [Int.tdiv_eq_ediv_of_nonneg (by omega)]; rfl
  have l1 : n / g ≤ n := Nat.div_le_self _ _
  have l2 : d / g ≤ d := Nat.div_le_self _ _
  have l3 : 1 ≤ d / g := by rw [Nat.le_div_iff_mul_le hg0, Nat.one_mul]; exact Nat.le_of_dvd (by omega) (by rw [← HG.out]; exact Nat.gcd_dvd_right _ _)
  unfold ratV
  obtain ⟨x, hx⟩ : ∃ x, n / g = x := ⟨_, rfl⟩
  obtain ⟨y, hy⟩ : ∃ y, d / g = y := ⟨_, rfl⟩
  rw [hx] at d1 l1 ⊢
  rw [hy] at d2 l2 l3 ⊢
  clear hx hy
  go_enter Tryd.func37, Tryd.ntmps37
  go_wp2_with (first
    | (go_at_call 47; refine (gcd_p _ _ (by omega) (by omega) _).mono ?_; rintro e w1 ⟨rfl, hb⟩; rw [HG.out]; have HK := Lib.hid ((Blk.new w 38 [.int .i64 0, .int .i64 0]).to hb); have HB := Lib.hid (((Below.refl w.heap.size w).alloc (Nat.le_refl _) _).trans (hb.mono (by simp))); have k0 : w1.cell? ⟨w.heap.size, 0, none⟩ = some (.int .i64 0) := HK.out.cell 0; have k1 : w1.cell? ⟨w.heap.size, 1, none⟩ = some (.int .i64 0) := HK.out.cell 1; have z0 := HK.out.frozen 0; have z1 := HK.out.frozen 1; clear hb)
    | (go_at_call 48; refine (size_p _ (by omega) (by omega) _).mono ?_; rintro e w1 ⟨rfl, rfl⟩))
  go_quiet (fail)
  go_wp2_with (go_at_call 48; refine (size_p _ (by omega) (by omega) _).mono ?_; rintro e w1 ⟨rfl, rfl⟩)
  all_goals first
    | (exfalso; simp only [decide_eq_true_eq, decide_eq_false_iff_not] at *; omega)
    | (refine ret_cell2 (g := w.heap.size) (xs := [.int .i64 x, .int .i64 y]) rfl rfl rfl (((HK.out.drewN _).set 0 (.int .i64 x)).set 1 (.int .i64 y)) Tryd.underlying38 rfl rat_info rfl ?_
       exact ⟨rfl, below_set (below_set (HB.out.trans ((below_n _).mono HB.out.size)) (Nat.le_refl _) 0 _) (Nat.le_refl _) 1 _⟩)
theorem valid_p (n d : Nat) (h0 : 1 ≤ d) (hd : d ≤ 2147483648) (hn : n ≤ 2147483648) (hg : Nat.gcd n d = 1) (w : World) : Calls Tryd.prog 38 #[ratV n d] w fun e w' => e = .returned (.bool true) ∧ Below w.heap.size w w' := by
  have HG := Lib.hid hg
  clear hg
  unfold ratV
  go_enter Tryd.func38, Tryd.ntmps38
  go_wp2_with (go_at_call 47; refine (gcd_p _ _ (by omega) (by omega) _).mono ?_; rintro e w1 ⟨rfl, hb⟩; rw [HG.out]; have HB := Lib.hid hb; clear hb)
  go_ret
  exact ⟨rfl, ((Below.refl w.heap.size w).alloc (Nat.le_refl _) _).trans (HB.out.mono (by simp))⟩
theorem valid_r (n d : Nat) (h0 : 1 ≤ d) (hd : d ≤ 2147483648) (hn : n ≤ 2147483648) (hg : Nat.gcd n d = 1) (w : World) : Calls Tryd.prog 50 #[ratV n d] w fun e w' => e = .returned (.bool true) ∧ Below w.heap.size w w' := by
  have HG := Lib.hid hg
  clear hg
  unfold ratV
  go_enter Tryd.func50, Tryd.ntmps50
  go_wp2_with (go_at_call 49; refine (gcd_r _ _ (by omega) (by omega) _).mono ?_; rintro e w1 ⟨rfl, hb⟩; rw [HG.out]; have HB := Lib.hid hb; clear hb)
  go_ret
  exact ⟨rfl, ((Below.refl w.heap.size w).alloc (Nat.le_refl _) _).trans (HB.out.mono (by simp))⟩

theorem entry2 (w : World) (c1 c2 : List Value) (e1 e2 : TypeId) : Blk ((w.alloc (.cells c1.toArray e1)).alloc (.cells c2.toArray e2)) w.heap.size e1 c1 ∧ Blk ((w.alloc (.cells c1.toArray e1)).alloc (.cells c2.toArray e2)) (w.heap.size + 1) e2 c2 ∧ Below w.heap.size w ((w.alloc (.cells c1.toArray e1)).alloc (.cells c2.toArray e2)) := by
  refine ⟨(Blk.new w e1 c1).to ((Below.refl _ _).alloc (Nat.le_refl _) _), ?_, ((Below.refl w.heap.size w).alloc (Nat.le_refl _) _).alloc (by simp) _⟩
  have := Blk.new (w.alloc (.cells c1.toArray e1)) e2 c2
  rwa [show (w.alloc (.cells c1.toArray e1)).heap.size = w.heap.size + 1 by simp] at this
theorem cmp_p (a b c d : Nat) (hb0 : 1 ≤ b) (hb : b ≤ 1000000000) (ha : a ≤ 1000000000) (hg1 : Nat.gcd a b = 1) (hd0 : 1 ≤ d) (hd : d ≤ 1000000000) (hc : c ≤ 1000000000) (hg2 : Nat.gcd c d = 1) (w : World) :
    Calls Tryd.prog 22 #[ratV a b, ratV c d] w fun e w' => e = .returned (.int .i64 (cmpI (a * d : Nat) (c * b : Nat))) ∧ Below w.heap.size w w' := by
  obtain ⟨r, hr⟩ : ∃ r, cmpI (a * d : Nat) (c * b : Nat) = r := ⟨_, rfl⟩
  have HR := Lib.hid hr
  rw [hr]
  clear hr
  have HG1 := Lib.hid hg1
  have HG2 := Lib.hid hg2
  unfold ratV
  obtain ⟨E1, E2, E3⟩ := entry2 w [.int .i64 a, .int .i64 b] [.int .i64 c, .int .i64 d] 38 38
  have HE1 := Lib.hid E1
  have HE2 := Lib.hid E2
  have HE3 := Lib.hid E3
  have m1 : a * d ≤ 1000000000 * 1000000000 := Nat.mul_le_mul ha hd
  have m2 : c * b ≤ 1000000000 * 1000000000 := Nat.mul_le_mul hc hb
  have q1 : (a : Int) * d = (a * d : Nat) := by rw [Int.natCast_mul]
  have q2 : (c : Int) * b = (c * b : Nat) := by rw [Int.natCast_mul]
  obtain ⟨x, hx⟩ : ∃ x, a * d = x := ⟨_, rfl⟩
  obtain ⟨y, hy⟩ : ∃ y, c * b = y := ⟨_, rfl⟩
  rw [hx] at m1 q1 HR
  rw [hy] at m2 q2 HR
  clear hg1 hg2 E1 E2 E3 hx hy
  go_enter Tryd.func22, Tryd.ntmps22
  go_wp2_with (fail)
  go_at_call 38
  refine (valid_p a b hb0 (by omega) (by omega) HG1.out _).mono ?_
  rintro e w1 ⟨rfl, hv1⟩
  have K1 := Lib.hid (HE1.out.to hv1)
  have K2 := Lib.hid (HE2.out.to hv1)
  have B1 := Lib.hid (HE3.out.trans (hv1.mono HE3.out.size))
  have k1 : w1.cell? ⟨w.heap.size + 1, 0, none⟩ = some (.int .i64 c) := K2.out.cell 0
  have k2 : w1.cell? ⟨w.heap.size + 1, 1, none⟩ = some (.int .i64 d) := K2.out.cell 1
  clear hv1
  go_wp2_with (fail)
  go_at_call 38
  refine (valid_p c d hd0 (by omega) (by omega) HG2.out _).mono ?_
  rintro e w2 ⟨rfl, hv2⟩
  have J1 := Lib.hid (K1.out.to hv2)
  have J2 := Lib.hid (K2.out.to hv2)
  have B2 := Lib.hid (B1.out.trans (hv2.mono B1.out.size))
  have j1 : w2.cell? ⟨w.heap.size + 1, 0, none⟩ = some (.int .i64 c) := J2.out.cell 0
  have j2 : w2.cell? ⟨w.heap.size + 1, 1, none⟩ = some (.int .i64 d) := J2.out.cell 1
  have j3 : w2.cell? ⟨w.heap.size, 0, none⟩ = some (.int .i64 a) := J1.out.cell 0
  have j4 : w2.cell? ⟨w.heap.size, 1, none⟩ = some (.int .i64 b) := J1.out.cell 1
  clear hv2 k1 k2
  go_wp2_with (fail)
  try go_quiet (fail)
  all_goals try go_wp2
  all_goals
    go_ret
    exact ⟨ret_int (by rw [← HR.out]; unfold cmpI; first | (rw [if_pos (by omega)]; done) | (rw [if_neg (by omega), if_pos (by omega)]; done) | (rw [if_neg (by omega), if_neg (by omega)])), B2.out.trans ((below_n _).mono B2.out.size)⟩

theorem make_r (n d : Nat) (hn : n ≤ 1000000000) (h0 : 1 ≤ d) (hd : d ≤ 1000000000) (w : World) : Calls Tryd.prog 39 #[.int .i64 n, .int .i64 d] w fun e w' => e = .returned (.tuple #[ratV (n / Nat.gcd n d) (d / Nat.gcd n d), .int .i64 0]) ∧ Below w.heap.size w w' := by
  obtain ⟨g, hg⟩ : ∃ g, Nat.gcd n d = g := ⟨_, rfl⟩
  have hg0 : 0 < g := by rw [← hg]; exact Nat.gcd_pos_of_pos_right _ (by omega)
  have hco : Nat.gcd (n / g) (d / g) = 1 := by rw [← hg]; exact Nat.gcd_div_gcd_div_gcd_of_pos_right (by omega)
  rw [hg]
  have HG := Lib.hid hg
  clear hg
  have f0 : ¬ (d : Int) = 0 := by omega
  have f1 : ((n : Int) == -9223372036854775808) = false := by rw [beq_eq_false_iff_ne]; omega
  have f2 : ((d : Int) == -9223372036854775808) = false := by rw [beq_eq_false_iff_ne]; omega
  have hgne : (g : Int) ≠ 0 := by omega
  have d1 : Int.tdiv (n : Int) g = (n / g : Nat) := by rw [Int.tdiv_eq_ediv_of_nonneg (by omega)]; rfl
  have d2 : Int.tdiv (d : Int) g = (d / g : Nat) := by rw [Int.tdiv_eq_ediv_of_nonneg (by omega)]; rfl
  have l1 : n / g ≤ n := Nat.div_le_self _ _
  have l2 : d / g ≤ d := Nat.div_le_self _ _
  have l3 : 1 ≤ d / g := by rw [Nat.le_div_iff_mul_le hg0, Nat.one_mul]; exact Nat.le_of_dvd (by omega) (by rw [← HG.out]; exact Nat.gcd_dvd_right _ _)
  unfold ratV
  obtain ⟨x, hx⟩ : ∃ x, n / g = x := ⟨_, rfl⟩
  obtain ⟨y, hy⟩ : ∃ y, d / g = y := ⟨_, rfl⟩
  rw [hx, hy] at hco
  rw [hx] at d1 l1 ⊢
  rw [hy] at d2 l2 l3 ⊢
  have HCO := Lib.hid hco
  clear hx hy hco
  go_enter Tryd.func39, Tryd.ntmps39
  go_wp2_with (fail)
  go_at_call 49
  refine (gcd_r _ _ (by omega) (by omega) _).mono ?_
  rintro e w1 ⟨rfl, hb⟩
  rw [HG.out]
  have HK := Lib.hid ((Blk.new w 38 [.int .i64 0, .int .i64 0]).to hb)
  have HB := Lib.hid (((Below.refl w.heap.size w).alloc (Nat.le_refl _) _).trans (hb.mono (by simp)))
  have k0 : w1.cell? ⟨w.heap.size, 0, none⟩ = some (.int .i64 0) := HK.out.cell 0
  have k1 : w1.cell? ⟨w.heap.size, 1, none⟩ = some (.int .i64 0) := HK.out.cell 1
  have z0 := HK.out.frozen 0
  have z1 := HK.out.frozen 1
  clear hb
  go_wp2_with (fail)
  have hsz : w.heap.size < w1.heap.size := HK.out.lt
  obtain ⟨w2, hw2⟩ : ∃ w2, (w1.alloc (.cells #[.int .i64 x, .int .i64 y] 38)).drew = w2 := ⟨_, rfl⟩
  have b12 : Below w1.heap.size w1 w2 := by rw [← hw2]; exact ((Below.refl w1.heap.size w1).alloc (Nat.le_refl _) _).drew
  have N2 : Blk w2 w1.heap.size 38 [.int .i64 x, .int .i64 y] := by rw [← hw2]; exact Blk.new w1 _ _
  have N1 : Blk w2 w.heap.size 38 [.int .i64 0, .int .i64 0] := HK.out.below b12 hsz
  have HN1 := Lib.hid N1
  have HN2 := Lib.hid N2
  have HB2 := Lib.hid (HB.out.trans (b12.mono HB.out.size))
  have HW2 := Lib.hid hw2
  have l0 : w2.cell? ⟨w1.heap.size, 0, none⟩ = some (.int .i64 x) := N2.cell 0
  have l1' : w2.cell? ⟨w1.heap.size, 1, none⟩ = some (.int .i64 y) := N2.cell 1
  clear hw2 b12 N1 N2
  go_region
  rw [HW2.out]
  go_wp2_with (fail)
  go_at_call 50
  refine (valid_r x y l3 (by omega) (by omega) HCO.out _).mono ?_
  rintro e w3 ⟨rfl, hb3⟩
  have M1 := Lib.hid (HN1.out.to hb3)
  have M2 := Lib.hid (HN2.out.to hb3)
  have HB3 := Lib.hid (HB2.out.trans (hb3.mono HB2.out.size))
  have p0 : w3.cell? ⟨w1.heap.size, 0, none⟩ = some (.int .i64 x) := M2.out.cell 0
  have p1 : w3.cell? ⟨w1.heap.size, 1, none⟩ = some (.int .i64 y) := M2.out.cell 1
  have r0 : w3.cell? ⟨w.heap.size, 0, none⟩ = some (.int .i64 0) := M1.out.cell 0
  have r1 : w3.cell? ⟨w.heap.size, 1, none⟩ = some (.int .i64 0) := M1.out.cell 1
  have y0 := M1.out.frozen 0
  have y1 := M1.out.frozen 1
  clear hb3
  go_wp2_with (fail)
  refine ret_cell2 (g := w.heap.size) (xs := [.int .i64 x, .int .i64 y]) rfl rfl rfl ((M1.out.set 0 (.int .i64 x)).set 1 (.int .i64 y)) Tryd.underlying38 rfl rat_info rfl ?_
  exact ⟨rfl, below_set (below_set HB3.out (Nat.le_refl _) 0 _) (Nat.le_refl _) 1 _⟩
end Go.Proofs.YtcnjjkmfneeajaaDoor
