/-
  Rate of the program and of the reference.
-/
import Derived.Test.YtcnjjkmfneeajaaDoorRat04
namespace Go.Proofs.YtcnjjkmfneeajaaDoor
open Go.RowKit
set_option maxRecDepth 100000
set_option maxHeartbeats 1000000

def rateB (a b per : Int) : Bool := usableB a b && knownB per
def rateV (a b per : Int) : Value := if rateB a b per then ratV ((a * per).toNat / Nat.gcd (a * per).toNat b.toNat) (b.toNat / Nat.gcd (a * per).toNat b.toNat) else ratV 0 0
def rateE (a b per : Int) : Int := if rateB a b per then 0 else 2
theorem rate_p (a b per : Int) (w : World) : Calls Tryd.prog 21 #[.int .i64 a, .int .i64 b, .int .i64 per] w fun e w' => e = .returned (.tuple #[rateV a b per, .int .i64 (rateE a b per)]) ∧ Below w.heap.size w w' := by
  obtain ⟨x, hx⟩ : ∃ x, rateV a b per = x := ⟨_, rfl⟩
  obtain ⟨y, hy⟩ : ∃ y, rateE a b per = y := ⟨_, rfl⟩
  rw [hx, hy]
  unfold rateV rateB at hx
  unfold rateE rateB at hy
  cases h1 : usableB a b <;> cases h2 : knownB per
  all_goals
    have H1 := Lib.hid h1
    have H2 := Lib.hid h2
    rw [h1, h2] at hx hy
  rotate_right
  · obtain ⟨a1, a2, a3, a4⟩ := usable_rng h1
    have hpr : 1 ≤ per ∧ per ≤ 8 := by unfold knownB at h2; simpa using h2
    obtain ⟨m1, m2⟩ := prod_rng a1 a2 (by omega : 0 ≤ per) (by omega)
    have m3 : a * per ≤ 1000000 * 8 := Int.mul_le_mul a2 hpr.2 (by omega) (by omega)
    obtain ⟨p1, p2⟩ := hpr
    simp only [Bool.and_self, if_true] at hx hy
    subst hy
    obtain ⟨n, hn⟩ : ∃ n : Nat, a * per = n := ⟨(a * per).toNat, by omega⟩
    obtain ⟨d, rfl⟩ : ∃ d : Nat, b = d := ⟨b.toNat, by omega⟩
    rw [hn, Int.toNat_natCast, Int.toNat_natCast] at hx
    rw [hn] at m1 m2 m3
    obtain ⟨N, hN⟩ : ∃ N, n / Nat.gcd n d = N := ⟨_, rfl⟩
    obtain ⟨D, hD⟩ : ∃ D, d / Nat.gcd n d = D := ⟨_, rfl⟩
    have hx' : ratV (n / Nat.gcd n d) (d / Nat.gcd n d) = .agg #[.int .i64 N, .int .i64 D] := by rw [hN, hD]; rfl
    rw [hx'] at hx
    subst hx
    have HX := Lib.hid hx'
    clear hx' h1 h2 hN hD
    go_enter Tryd.func21, Tryd.ntmps21
    go_wp2_with (first
      | (go_at_call 34; refine (usable_p _ _ _).mono ?_; rintro e w1 ⟨rfl, rfl⟩; rw [H1.out])
      | (go_at_call 26; refine (known_p _ _).mono ?_; rintro e w1 ⟨rfl, rfl⟩; rw [H2.out])
      | (go_at_call 37; refine (make_p n d (by omega) (by omega) (by omega) _).mono ?_; rintro e w1 ⟨rfl, hb⟩; rw [HX.out]; have HK := Lib.hid ((Blk.new w 38 [.int .i64 0, .int .i64 0]).to hb); have HB := Lib.hid (((Below.refl w.heap.size w).alloc (Nat.le_refl _) _).trans (hb.mono (by simp))); have k0 : w1.cell? ⟨w.heap.size, 0, none⟩ = some (.int .i64 0) := HK.out.cell 0; have k1 : w1.cell? ⟨w.heap.size, 1, none⟩ = some (.int .i64 0) := HK.out.cell 1; have z0 := HK.out.frozen 0; have z1 := HK.out.frozen 1; clear hb))
    refine ret_cell2 (g := w.heap.size) (xs := [.int .i64 N, .int .i64 D]) rfl rfl rfl ((HK.out.set 0 (.int .i64 N)).set 1 (.int .i64 D)) Tryd.underlying38 rfl rat_info rfl ?_
    exact ⟨rfl, below_set (below_set HB.out (Nat.le_refl _) 0 _) (Nat.le_refl _) 1 _⟩
  all_goals
    have HX := Lib.hid (show ratV 0 0 = x from hx)
    have HY := Lib.hid (show (2 : Int) = y from hy)
    clear h1 h2 hx hy
    go_enter Tryd.func21, Tryd.ntmps21
    go_wp2_with (first
      | (go_at_call 34; refine (usable_p _ _ _).mono ?_; rintro e w1 ⟨rfl, rfl⟩; rw [H1.out])
      | (go_at_call 26; refine (known_p _ _).mono ?_; rintro e w1 ⟨rfl, rfl⟩; rw [H2.out]))
    all_goals
      refine ret_cell2 (g := w.heap.size) (xs := [.int .i64 0, .int .i64 0]) rfl rfl rfl (Blk.new w _ _) Tryd.underlying38 rfl rat_info rfl ?_
      exact ⟨by rw [← HX.out, ← HY.out]; rfl, (Below.refl w.heap.size w).alloc (Nat.le_refl _) _⟩
theorem rate_r (a b per : Int) (w : World) : Calls Tryd.prog 23 #[.int .i64 a, .int .i64 b, .int .i64 per] w fun e w' => e = .returned (.tuple #[rateV a b per, .int .i64 (rateE a b per)]) ∧ Below w.heap.size w w' := by
  obtain ⟨x, hx⟩ : ∃ x, rateV a b per = x := ⟨_, rfl⟩
  obtain ⟨y, hy⟩ : ∃ y, rateE a b per = y := ⟨_, rfl⟩
  rw [hx, hy]
  unfold rateV rateB at hx
  unfold rateE rateB at hy
  cases h1 : usableB a b <;> cases h2 : knownB per
  all_goals
    have H1 := Lib.hid h1
    have H2 := Lib.hid h2
    rw [h1, h2] at hx hy
  rotate_right
  · obtain ⟨a1, a2, a3, a4⟩ := usable_rng h1
    have hpr : 1 ≤ per ∧ per ≤ 8 := by unfold knownB at h2; simpa using h2
    obtain ⟨m1, m2⟩ := prod_rng a1 a2 (by omega : 0 ≤ per) (by omega)
    have m3 : a * per ≤ 1000000 * 8 := Int.mul_le_mul a2 hpr.2 (by omega) (by omega)
    obtain ⟨p1, p2⟩ := hpr
    simp only [Bool.and_self, if_true] at hx hy
    subst hy
    obtain ⟨n, hn⟩ : ∃ n : Nat, a * per = n := ⟨(a * per).toNat, by omega⟩
    obtain ⟨d, rfl⟩ : ∃ d : Nat, b = d := ⟨b.toNat, by omega⟩
    rw [hn, Int.toNat_natCast, Int.toNat_natCast] at hx
    rw [hn] at m1 m2 m3
    obtain ⟨N, hN⟩ : ∃ N, n / Nat.gcd n d = N := ⟨_, rfl⟩
    obtain ⟨D, hD⟩ : ∃ D, d / Nat.gcd n d = D := ⟨_, rfl⟩
    have hx' : ratV (n / Nat.gcd n d) (d / Nat.gcd n d) = .agg #[.int .i64 N, .int .i64 D] := by rw [hN, hD]; rfl
    rw [hx'] at hx
    subst hx
    have HX := Lib.hid hx'
    clear hx' h1 h2 hN hD
    go_enter Tryd.func23, Tryd.ntmps23
    go_wp2_with (first
      | (go_at_call 36; refine (rated_r _ _ _).mono ?_; rintro e w1 ⟨rfl, rfl⟩; rw [H1.out])
      | (go_at_call 28; refine (perOK_r _ _).mono ?_; rintro e w1 ⟨rfl, rfl⟩; rw [H2.out])
      | (go_at_call 39; refine (make_r n d (by omega) (by omega) (by omega) _).mono ?_; rintro e w1 ⟨rfl, hb⟩; rw [HX.out]; have HK := Lib.hid ((Blk.new w 38 [.int .i64 0, .int .i64 0]).to hb); have HB := Lib.hid (((Below.refl w.heap.size w).alloc (Nat.le_refl _) _).trans (hb.mono (by simp))); have k0 : w1.cell? ⟨w.heap.size, 0, none⟩ = some (.int .i64 0) := HK.out.cell 0; have k1 : w1.cell? ⟨w.heap.size, 1, none⟩ = some (.int .i64 0) := HK.out.cell 1; have z0 := HK.out.frozen 0; have z1 := HK.out.frozen 1; clear hb))
    refine ret_cell2 (g := w.heap.size) (xs := [.int .i64 N, .int .i64 D]) rfl rfl rfl ((HK.out.set 0 (.int .i64 N)).set 1 (.int .i64 D)) Tryd.underlying38 rfl rat_info rfl ?_
    exact ⟨rfl, below_set (below_set HB.out (Nat.le_refl _) 0 _) (Nat.le_refl _) 1 _⟩
  all_goals
    have HX := Lib.hid (show ratV 0 0 = x from hx)
    have HY := Lib.hid (show (2 : Int) = y from hy)
    clear h1 h2 hx hy
    go_enter Tryd.func23, Tryd.ntmps23
    go_wp2_with (first
      | (go_at_call 36; refine (rated_r _ _ _).mono ?_; rintro e w1 ⟨rfl, rfl⟩; rw [H1.out])
      | (go_at_call 28; refine (perOK_r _ _).mono ?_; rintro e w1 ⟨rfl, rfl⟩; rw [H2.out]))
    all_goals
      refine ret_cell2 (g := w.heap.size) (xs := [.int .i64 0, .int .i64 0]) rfl rfl rfl (Blk.new w _ _) Tryd.underlying38 rfl rat_info rfl ?_
      exact ⟨by rw [← HX.out, ← HY.out]; rfl, (Below.refl w.heap.size w).alloc (Nat.le_refl _) _⟩
end Go.Proofs.YtcnjjkmfneeajaaDoor
