/-
  Chapter 12: the law's Few.
-/
import Derived.Test.YtjlmlafiojpjmaaCrD
import Derived.Test.YtjlmlafiojpjmaaLoF
import Derived.Deep.DeepCutAuto
import Derived.Deep.CutBlock
set_option linter.unusedSimpArgs false
set_option linter.unusedVariables false
namespace Go.Proofs.Ytjlmlafiojpjmaa
open Go.RowKit
set_option maxRecDepth 100000
set_option maxHeartbeats 4000000
def fewI (I : Inn) : Inn := { I with b := I.b.take 13, bo := I.bo.take 13, be := I.be.take 13, bd := I.bd.take 13, sb := I.sb.take 13 }
theorem fewI_few (I : Inn) : (fewI I).Few := by
  constructor <;> (show (List.take 13 _).length ≤ 1000; rw [List.length_take]; omega)
theorem Lst.take {w : World} {A : Option Addr} {n c : Nat} {xs : List Value} (h : Lst w (.slice A n c) xs) (hn : xs.length = n) {m : Nat} (hm : min n 13 = m) : Lst w (.slice A m c) (xs.take 13) := by
  rcases h with ⟨h1, rfl⟩ | ⟨b, off, c', h1, h2, h3, h4⟩ | ⟨a, c', h1, rfl⟩
  · injection h1 with e1 e2 e3
    subst e1 e2 e3
    obtain rfl : m = 0 := by omega
    exact .inl ⟨rfl, by simp⟩
  · injection h1 with e1 e2 e3
    subst e1 e3
    refine .inr (.inl ⟨b, off, c, by rw [List.length_take, hn, Nat.min_comm, hm], by rw [List.length_take]; omega, h3, fun j u hj => ?_⟩)
    rw [List.getElem?_take] at hj
    split at hj
    · exact h4 j u hj
    · cases hj
  · injection h1 with e1 e2 e3
    subst e1 e2 e3
    obtain rfl : m = 0 := by omega
    exact .inr (.inr ⟨a, c, rfl, by simp⟩)
theorem few_p (I : Inn) (A1 A2 A3 A4 A5 : Option Addr) (n1 n2 n3 n4 n5 c1 c2 c3 c4 c5 : Nat) (w wz : World) (hV : InnR wz ⟨.slice A1 n1 c1, .slice A2 n2 c2, .slice A3 n3 c3, .slice A4 n4 c4, .slice A5 n5 c5⟩ I)
    (h1 : I.b.length = n1) (h2 : I.bo.length = n2) (h3 : I.be.length = n3) (h4 : I.bd.length = n4) (h5 : I.sb.length = n5) (k1 : n1 ≤ c1) (k2 : n2 ≤ c2) (k3 : n3 ≤ c3) (k4 : n4 ≤ c4) (k5 : n5 ≤ c5)
    (g1 : c1 ≤ 9223372036854775807) (g2 : c2 ≤ 9223372036854775807) (g3 : c3 ≤ 9223372036854775807) (g4 : c4 ≤ 9223372036854775807) (g5 : c5 ≤ 9223372036854775807) :
    Calls Try.prog 11 #[.agg (I.cells ⟨.slice A1 n1 c1, .slice A2 n2 c2, .slice A3 n3 c3, .slice A4 n4 c4, .slice A5 n5 c5⟩).toArray] w fun e w' => ∃ U, e = .returned (.agg ((fewI I).cells U).toArray) ∧ InnR wz U (fewI I) ∧ Below w.heap.size w w' := by
  obtain ⟨r, wk, st, ot, lb, lbo, lbe, lbd, lsb⟩ := I
  dsimp only at h1 h2 h3 h4 h5
  show Calls Try.prog 11 #[innV r wk st ot ⟨.slice A1 n1 c1, .slice A2 n2 c2, .slice A3 n3 c3, .slice A4 n4 c4, .slice A5 n5 c5⟩] w _
  obtain ⟨r1, r2, r3, r4, r5⟩ := hV
  dsimp only at r1 r2 r3 r4 r5
  obtain ⟨m1, hm1⟩ : ∃ m, min n1 13 = m := ⟨_, rfl⟩
  obtain ⟨m2, hm2⟩ : ∃ m, min n2 13 = m := ⟨_, rfl⟩
  obtain ⟨m3, hm3⟩ : ∃ m, min n3 13 = m := ⟨_, rfl⟩
  obtain ⟨m4, hm4⟩ : ∃ m, min n4 13 = m := ⟨_, rfl⟩
  obtain ⟨m5, hm5⟩ : ∃ m, min n5 13 = m := ⟨_, rfl⟩
  have HR := Lib.hid (InnR.mk (w := wz) (V := ⟨.slice A1 m1 c1, .slice A2 m2 c2, .slice A3 m3 c3, .slice A4 m4 c4, .slice A5 m5 c5⟩) (I := fewI ⟨r, wk, st, ot, lb, lbo, lbe, lbd, lsb⟩)
    (by have := r1.take (by rw [stC_len, h1]) hm1; show Lst wz _ (stC (lb.take 13)); unfold stC at this ⊢; rw [List.map_take]; exact this)
    (by have := r2.take (by rw [inC_len, h2]) hm2; show Lst wz _ (inC (lbo.take 13)); unfold inC at this ⊢; rw [List.map_take]; exact this)
    (by have := r3.take (by rw [inC_len, h3]) hm3; show Lst wz _ (inC (lbe.take 13)); unfold inC at this ⊢; rw [List.map_take]; exact this)
    (by have := r4.take (by rw [inC_len, h4]) hm4; show Lst wz _ (inC (lbd.take 13)); unfold inC at this ⊢; rw [List.map_take]; exact this)
    (by have := r5.take (by rw [boC_len, h5]) hm5; show Lst wz _ (boC (lsb.take 13)); unfold boC at this ⊢; rw [List.map_take]; exact this))
  have q1 : min (n1 : Int) 13 = (m1 : Nat) := by omega
  have q2 : min (n2 : Int) 13 = (m2 : Nat) := by omega
  have q3 : min (n3 : Int) 13 = (m3 : Nat) := by omega
  have q4 : min (n4 : Int) 13 = (m4 : Nat) := by omega
  have q5 : min (n5 : Int) 13 = (m5 : Nat) := by omega
  have t1 : (m1 : Int) ≤ c1 := by omega
  have t2 : (m2 : Int) ≤ c2 := by omega
  have t3 : (m3 : Int) ≤ c3 := by omega
  have t4 : (m4 : Int) ≤ c4 := by omega
  have t5 : (m5 : Int) ≤ c5 := by omega
  have v1 : ¬ (c1 : Int) < m1 := by omega
  have v2 : ¬ (c2 : Int) < m2 := by omega
  have v3 : ¬ (c3 : Int) < m3 := by omega
  have v4 : ¬ (c4 : Int) < m4 := by omega
  have v5 : ¬ (c5 : Int) < m5 := by omega
  obtain ⟨hin, hre, hb0⟩ := entry2 w (innL r wk st ot ⟨.slice A1 n1 c1, .slice A2 n2 c2, .slice A3 n3 c3, .slice A4 n4 c4, .slice A5 n5 c5⟩) [.int .i64 0, .int .i64 0, .int .i64 0, .int .i64 0, .int .i64 0, .int .i64 0, .int .i64 0, .int .i64 0, .int .i64 0, .int .i64 0, .int .i64 0, .int .i64 0, .int .i64 0, .int .i64 0, .slice none 0 0, .int .i64 0, .slice none 0 0, .slice none 0 0, .bool false, .slice none 0 0, .bool false, .int .i64 0, .int .i64 0, .int .i64 0, .slice none 0 0, .int .i64 0, .int .i64 0, .int .u8 0] 32 32
  obtain ⟨w0, hw0⟩ : ∃ y, (w.alloc (.cells (innL r wk st ot ⟨.slice A1 n1 c1, .slice A2 n2 c2, .slice A3 n3 c3, .slice A4 n4 c4, .slice A5 n5 c5⟩).toArray 32)).alloc (.cells [.int .i64 0, .int .i64 0, .int .i64 0, .int .i64 0, .int .i64 0, .int .i64 0, .int .i64 0, .int .i64 0, .int .i64 0, .int .i64 0, .int .i64 0, .int .i64 0, .int .i64 0, .int .i64 0, .slice none 0 0, .int .i64 0, .slice none 0 0, .slice none 0 0, .bool false, .slice none 0 0, .bool false, .int .i64 0, .int .i64 0, .int .i64 0, .slice none 0 0, .int .i64 0, .int .i64 0, .int .u8 0].toArray 32) = y := ⟨_, rfl⟩
  rw [hw0] at hin hre hb0
  have S0 := Lib.hid hw0
  have HQ := Lib.hid hin
  have HRE := Lib.hid hre
  have HB := Lib.hid hb0
  clear hin hre hb0 hw0 r1 r2 r3 r4 r5 h1 h2 h3 h4 h5 hm1 hm2 hm3 hm4 hm5
  have a1 : w0.cell? ⟨w.heap.size, 14, none⟩ = some (.slice A1 n1 c1) := HQ.out.cell 14
  have a2 : w0.cell? ⟨w.heap.size, 19, none⟩ = some (.slice A4 n4 c4) := HQ.out.cell 19
  have a3 : w0.cell? ⟨w.heap.size, 24, none⟩ = some (.slice A5 n5 c5) := HQ.out.cell 24
  have f1 := HQ.out.frozen 14
  have f2 := HQ.out.frozen 19
  have f3 := HQ.out.frozen 24
  have HQ1 := Lib.hid (HQ.out.set 14 (.slice A1 m1 c1))
  have b1 : (w0.setCell ⟨w.heap.size, 14, none⟩ (.slice A1 m1 c1)).cell? ⟨w.heap.size, 19, none⟩ = some (.slice A4 n4 c4) := HQ1.out.cell 19
  have b2 : (w0.setCell ⟨w.heap.size, 14, none⟩ (.slice A1 m1 c1)).cell? ⟨w.heap.size, 24, none⟩ = some (.slice A5 n5 c5) := HQ1.out.cell 24
  have f4 := HQ1.out.frozen 19
  have HQ2 := Lib.hid (HQ1.out.set 19 (.slice A4 m4 c4))
  have b3 : ((w0.setCell ⟨w.heap.size, 14, none⟩ (.slice A1 m1 c1)).setCell ⟨w.heap.size, 19, none⟩ (.slice A4 m4 c4)).cell? ⟨w.heap.size, 24, none⟩ = some (.slice A5 n5 c5) := HQ2.out.cell 24
  have f5 := HQ2.out.frozen 24
  have HQ3 := Lib.hid (show Blk (((w0.setCell ⟨w.heap.size, 14, none⟩ (.slice A1 m1 c1)).setCell ⟨w.heap.size, 19, none⟩ (.slice A4 m4 c4)).setCell ⟨w.heap.size, 24, none⟩ (.slice A5 m5 c5)) w.heap.size 32 (innL r wk st ot ⟨.slice A1 m1 c1, .slice A2 n2 c2, .slice A3 n3 c3, .slice A4 m4 c4, .slice A5 m5 c5⟩) from HQ2.out.set 24 (.slice A5 m5 c5))
  go_enter Try.func11, Try.ntmps11
  go_upto_region 1 with (rw [S0.out])
  go_cut [] from 3 to 26 (fun wx => Blk wx w.heap.size 32 (innL r wk st ot ⟨.slice A1 m1 c1, .slice A2 n2 c2, .slice A3 n3 c3, .slice A4 m4 c4, .slice A5 m5 c5⟩) ∧ Blk wx (w.heap.size + 1) 32 zeroL ∧ Below w.heap.size w wx)
  case first =>
    refine wp_region_any (by kernel_rfl) ?_
    try (change wpAny _ _ _ _ _ _ _ (World.drew _))
    refine wpAny_take (i := 0) (v := ?_) rfl (by kernel_rfl) (by kernel_rfl) (by kernel_rfl) (fun _ _ _ h => h) (Or.inl ⟨by rfl, ?_⟩) ?_
    rotate_left
    · intro w
      go_simp
      try with_reducible rfl
    refine wpAny_take (i := 2) (v := ?_) rfl (by kernel_rfl) (by kernel_rfl) (by kernel_rfl) (fun _ _ _ h => h) (Or.inl ⟨by rfl, ?_⟩) ?_
    rotate_left
    · intro w
      go_simp
      try with_reducible rfl
    refine wpAny_take (i := 7) (v := ?_) rfl (by kernel_rfl) (by kernel_rfl) (by kernel_rfl) (fun _ _ _ h => h) (Or.inl ⟨by rfl, ?_⟩) ?_
    rotate_left
    · intro w
      go_simp
      try with_reducible rfl
    refine wpAny_take (i := 9) (v := ?_) rfl (by kernel_rfl) (by kernel_rfl) (by kernel_rfl) (fun _ _ _ h => h) (Or.inl ⟨by rfl, ?_⟩) ?_
    rotate_left
    · intro w
      go_simp
      try with_reducible rfl
    refine wpAny_take (i := 14) (v := ?_) rfl (by kernel_rfl) (by kernel_rfl) (by kernel_rfl) (fun _ _ _ h => h) (Or.inl ⟨by rfl, ?_⟩) ?_
    rotate_left
    · intro w
      go_simp
      try with_reducible rfl
    refine wpAny_take (i := 16) (v := ?_) rfl (by kernel_rfl) (by kernel_rfl) (by kernel_rfl) (fun _ _ _ h => h) (Or.inl ⟨by rfl, ?_⟩) ?_
    rotate_left
    · intro w
      go_simp
      try with_reducible rfl
    refine wpAny_load (i := 1) (v := (.slice A1 n1 c1)) rfl (by kernel_rfl) (by kernel_rfl) (by kernel_rfl) (by kernel_rfl) (fun _ _ _ h => h) rfl 26 _ rfl ⟨w.heap.size, 14, none⟩ (by simp [Act.eval, Act.put]) (fun w => Try.isAgg26 w) a1 ?_
    refine wpAny_load (i := 3) (v := (.slice A1 n1 c1)) rfl (by kernel_rfl) (by kernel_rfl) (by kernel_rfl) (by kernel_rfl) (fun _ _ _ h => h) rfl 26 _ rfl ⟨w.heap.size, 14, none⟩ (by simp [Act.eval, Act.put]) (fun w => Try.isAgg26 w) a1 ?_
    refine wpAny_take (i := 4) (v := ?_) rfl (by kernel_rfl) (by kernel_rfl) (by kernel_rfl) (fun _ _ _ h => h) (Or.inl ⟨by rfl, ?_⟩) ?_
    rotate_left
    · intro w
      go_simp
      try with_reducible rfl
    refine wpAny_take (i := 5) (v := ?_) rfl (by kernel_rfl) (by kernel_rfl) (by kernel_rfl) (fun _ _ _ h => h) (Or.inl ⟨by rfl, ?_⟩) ?_
    rotate_left
    · intro w
      go_simp
      try with_reducible rfl
    refine wpAny_take (i := 6) (v := ?_) rfl (by kernel_rfl) (by kernel_rfl) (by kernel_rfl) (fun _ _ _ h => h) (Or.inl ⟨by rfl, ?_⟩) ?_
    rotate_left
    · intro w
      go_simp
      try with_reducible rfl
    refine wpAny_load (i := 8) (v := (.slice A4 n4 c4)) rfl (by kernel_rfl) (by kernel_rfl) (by kernel_rfl) (by kernel_rfl) (fun _ _ _ h => h) rfl 27 _ rfl ⟨w.heap.size, 19, none⟩ (by simp [Act.eval, Act.put]) (fun w => Try.isAgg27 w) a2 ?_
    refine wpAny_load (i := 10) (v := (.slice A4 n4 c4)) rfl (by kernel_rfl) (by kernel_rfl) (by kernel_rfl) (by kernel_rfl) (fun _ _ _ h => h) rfl 27 _ rfl ⟨w.heap.size, 19, none⟩ (by simp [Act.eval, Act.put]) (fun w => Try.isAgg27 w) a2 ?_
    refine wpAny_take (i := 11) (v := ?_) rfl (by kernel_rfl) (by kernel_rfl) (by kernel_rfl) (fun _ _ _ h => h) (Or.inl ⟨by rfl, ?_⟩) ?_
    rotate_left
    · intro w
      go_simp
      try with_reducible rfl
    refine wpAny_take (i := 12) (v := ?_) rfl (by kernel_rfl) (by kernel_rfl) (by kernel_rfl) (fun _ _ _ h => h) (Or.inl ⟨by rfl, ?_⟩) ?_
    rotate_left
    · intro w
      go_simp
      try with_reducible rfl
    refine wpAny_take (i := 13) (v := ?_) rfl (by kernel_rfl) (by kernel_rfl) (by kernel_rfl) (fun _ _ _ h => h) (Or.inl ⟨by rfl, ?_⟩) ?_
    rotate_left
    · intro w
      go_simp
      try with_reducible rfl
    refine wpAny_load (i := 15) (v := (.slice A5 n5 c5)) rfl (by kernel_rfl) (by kernel_rfl) (by kernel_rfl) (by kernel_rfl) (fun _ _ _ h => h) rfl 28 _ rfl ⟨w.heap.size, 24, none⟩ (by simp [Act.eval, Act.put]) (fun w => Try.isAgg28 w) a3 ?_
    refine wpAny_load (i := 17) (v := (.slice A5 n5 c5)) rfl (by kernel_rfl) (by kernel_rfl) (by kernel_rfl) (by kernel_rfl) (fun _ _ _ h => h) rfl 28 _ rfl ⟨w.heap.size, 24, none⟩ (by simp [Act.eval, Act.put]) (fun w => Try.isAgg28 w) a3 ?_
    refine wpAny_take (i := 18) (v := ?_) rfl (by kernel_rfl) (by kernel_rfl) (by kernel_rfl) (fun _ _ _ h => h) (Or.inl ⟨by rfl, ?_⟩) ?_
    rotate_left
    · intro w
      go_simp
      try with_reducible rfl
    refine wpAny_take (i := 19) (v := ?_) rfl (by kernel_rfl) (by kernel_rfl) (by kernel_rfl) (fun _ _ _ h => h) (Or.inl ⟨by rfl, ?_⟩) ?_
    rotate_left
    · intro w
      go_simp
      try with_reducible rfl
    refine wpAny_take (i := 20) (v := ?_) rfl (by kernel_rfl) (by kernel_rfl) (by kernel_rfl) (fun _ _ _ h => h) (Or.inl ⟨by rfl, ?_⟩) ?_
    rotate_left
    · intro w
      go_simp
      try with_reducible rfl
    refine wpAny_take (i := 21) (v := ?_) rfl (by kernel_rfl) (by kernel_rfl) (by kernel_rfl) (fun _ _ _ h => h) (Or.inl ⟨by rfl, ?_⟩) ?_
    rotate_left
    · intro w
      go_simp
      try with_reducible rfl
    refine wpAny_ready (rs := [22]) (by kernel_rfl) (by simp) ?_
    refine AllReady.cons rfl (fun K hK => ?_) AllReady.nil
    go_simp
    refine hK _ _ ?_
    clear hK K
    refine wpAny_take (i := 23) (v := ?_) rfl (by kernel_rfl) (by kernel_rfl) (by kernel_rfl) (fun _ _ _ h => h) (Or.inl ⟨by rfl, ?_⟩) ?_
    rotate_left
    · intro w
      go_simp
      try with_reducible rfl
    refine wpAny_ready (rs := [24]) (by kernel_rfl) (by simp) ?_
    refine AllReady.cons rfl (fun K hK => ?_) AllReady.nil
    go_simp
    refine hK _ _ ?_
    clear hK K
    refine wpAny_take (i := 25) (v := ?_) rfl (by kernel_rfl) (by kernel_rfl) (by kernel_rfl) (fun _ _ _ h => h) (Or.inl ⟨by rfl, ?_⟩) ?_
    rotate_left
    · intro w
      go_simp
      try with_reducible rfl
    refine wpAny_ready (rs := [26]) (by kernel_rfl) (by simp) ?_
    refine AllReady.cons rfl (fun K hK => ?_) AllReady.nil
    go_simp
    refine hK _ _ ?_
    clear hK K
    refine wpAny_done (by kernel_rfl) ?_ _
    go_wp2_with (fail)
    go_meet
    case rel => exact ⟨HQ3.out, ((HRE.out.other (by omega) _ _).other (by omega) _ _).other (by omega) _ _, (below_set (below_set (below_set HB.out (Nat.le_refl _) _ _) (Nat.le_refl _) _ _) (Nat.le_refl _) _ _).drew⟩
  case rest =>
  obtain ⟨hx, hre, hb⟩ := hcut
  rename World => w1
  have HX := Lib.hid hx
  have HX4 := Lib.hid hre
  have HX5 := Lib.hid hb
  clear hx hre hb a1 a2 a3 f1 f2 f3 b1 b2 b3 f4 f5 HQ1 HQ2 HQ3
  have a1 : w1.cell? ⟨w.heap.size, 16, none⟩ = some (.slice A2 n2 c2) := HX.out.cell 16
  have a2 : w1.cell? ⟨w.heap.size, 17, none⟩ = some (.slice A3 n3 c3) := HX.out.cell 17
  have f1 := HX.out.frozen 16
  have HX1 := Lib.hid (HX.out.set 16 (.slice A2 m2 c2))
  have b1 : (w1.setCell ⟨w.heap.size, 16, none⟩ (.slice A2 m2 c2)).cell? ⟨w.heap.size, 17, none⟩ = some (.slice A3 n3 c3) := HX1.out.cell 17
  have f2 := HX1.out.frozen 17
  have HX3 := Lib.hid (show Blk ((w1.setCell ⟨w.heap.size, 16, none⟩ (.slice A2 m2 c2)).setCell ⟨w.heap.size, 17, none⟩ (.slice A3 m3 c3)) w.heap.size 32 (innL r wk st ot ⟨.slice A1 m1 c1, .slice A2 m2 c2, .slice A3 m3 c3, .slice A4 m4 c4, .slice A5 m5 c5⟩) from HX1.out.set 17 (.slice A3 m3 c3))
  go_upto_region 2 with (fail)
  go_cut [] from 27 to 42 (fun wx => Blk wx w.heap.size 32 (innL r wk st ot ⟨.slice A1 m1 c1, .slice A2 m2 c2, .slice A3 m3 c3, .slice A4 m4 c4, .slice A5 m5 c5⟩) ∧ Blk wx (w.heap.size + 1) 32 zeroL ∧ Below w.heap.size w wx)
  case first =>
    refine wp_region_any (by kernel_rfl) ?_
    try (change wpAny _ _ _ _ _ _ _ (World.drew _))
    refine wpAny_take (i := 0) (v := ?_) rfl (by kernel_rfl) (by kernel_rfl) (by kernel_rfl) (fun _ _ _ h => h) (Or.inl ⟨by rfl, ?_⟩) ?_
    rotate_left
    · intro w
      go_simp
      try with_reducible rfl
    refine wpAny_take (i := 2) (v := ?_) rfl (by kernel_rfl) (by kernel_rfl) (by kernel_rfl) (fun _ _ _ h => h) (Or.inl ⟨by rfl, ?_⟩) ?_
    rotate_left
    · intro w
      go_simp
      try with_reducible rfl
    refine wpAny_take (i := 7) (v := ?_) rfl (by kernel_rfl) (by kernel_rfl) (by kernel_rfl) (fun _ _ _ h => h) (Or.inl ⟨by rfl, ?_⟩) ?_
    rotate_left
    · intro w
      go_simp
      try with_reducible rfl
    refine wpAny_take (i := 9) (v := ?_) rfl (by kernel_rfl) (by kernel_rfl) (by kernel_rfl) (fun _ _ _ h => h) (Or.inl ⟨by rfl, ?_⟩) ?_
    rotate_left
    · intro w
      go_simp
      try with_reducible rfl
    refine wpAny_load (i := 1) (v := (.slice A2 n2 c2)) rfl (by kernel_rfl) (by kernel_rfl) (by kernel_rfl) (by kernel_rfl) (fun _ _ _ h => h) rfl 27 _ rfl ⟨w.heap.size, 16, none⟩ (by simp [Act.eval, Act.put]) (fun w => Try.isAgg27 w) a1 ?_
    refine wpAny_load (i := 3) (v := (.slice A2 n2 c2)) rfl (by kernel_rfl) (by kernel_rfl) (by kernel_rfl) (by kernel_rfl) (fun _ _ _ h => h) rfl 27 _ rfl ⟨w.heap.size, 16, none⟩ (by simp [Act.eval, Act.put]) (fun w => Try.isAgg27 w) a1 ?_
    refine wpAny_take (i := 4) (v := ?_) rfl (by kernel_rfl) (by kernel_rfl) (by kernel_rfl) (fun _ _ _ h => h) (Or.inl ⟨by rfl, ?_⟩) ?_
    rotate_left
    · intro w
      go_simp
      try with_reducible rfl
    refine wpAny_take (i := 5) (v := ?_) rfl (by kernel_rfl) (by kernel_rfl) (by kernel_rfl) (fun _ _ _ h => h) (Or.inl ⟨by rfl, ?_⟩) ?_
    rotate_left
    · intro w
      go_simp
      try with_reducible rfl
    refine wpAny_take (i := 6) (v := ?_) rfl (by kernel_rfl) (by kernel_rfl) (by kernel_rfl) (fun _ _ _ h => h) (Or.inl ⟨by rfl, ?_⟩) ?_
    rotate_left
    · intro w
      go_simp
      try with_reducible rfl
    refine wpAny_load (i := 8) (v := (.slice A3 n3 c3)) rfl (by kernel_rfl) (by kernel_rfl) (by kernel_rfl) (by kernel_rfl) (fun _ _ _ h => h) rfl 27 _ rfl ⟨w.heap.size, 17, none⟩ (by simp [Act.eval, Act.put]) (fun w => Try.isAgg27 w) a2 ?_
    refine wpAny_load (i := 10) (v := (.slice A3 n3 c3)) rfl (by kernel_rfl) (by kernel_rfl) (by kernel_rfl) (by kernel_rfl) (fun _ _ _ h => h) rfl 27 _ rfl ⟨w.heap.size, 17, none⟩ (by simp [Act.eval, Act.put]) (fun w => Try.isAgg27 w) a2 ?_
    refine wpAny_take (i := 11) (v := ?_) rfl (by kernel_rfl) (by kernel_rfl) (by kernel_rfl) (fun _ _ _ h => h) (Or.inl ⟨by rfl, ?_⟩) ?_
    rotate_left
    · intro w
      go_simp
      try with_reducible rfl
    refine wpAny_take (i := 12) (v := ?_) rfl (by kernel_rfl) (by kernel_rfl) (by kernel_rfl) (fun _ _ _ h => h) (Or.inl ⟨by rfl, ?_⟩) ?_
    rotate_left
    · intro w
      go_simp
      try with_reducible rfl
    refine wpAny_take (i := 13) (v := ?_) rfl (by kernel_rfl) (by kernel_rfl) (by kernel_rfl) (fun _ _ _ h => h) (Or.inl ⟨by rfl, ?_⟩) ?_
    rotate_left
    · intro w
      go_simp
      try with_reducible rfl
    refine wpAny_take (i := 14) (v := ?_) rfl (by kernel_rfl) (by kernel_rfl) (by kernel_rfl) (fun _ _ _ h => h) (Or.inl ⟨by rfl, ?_⟩) ?_
    rotate_left
    · intro w
      go_simp
      try with_reducible rfl
    refine wpAny_ready (rs := [15]) (by kernel_rfl) (by simp) ?_
    refine AllReady.cons rfl (fun K hK => ?_) AllReady.nil
    go_simp
    refine hK _ _ ?_
    clear hK K
    refine wpAny_take (i := 16) (v := ?_) rfl (by kernel_rfl) (by kernel_rfl) (by kernel_rfl) (fun _ _ _ h => h) (Or.inl ⟨by rfl, ?_⟩) ?_
    rotate_left
    · intro w
      go_simp
      try with_reducible rfl
    refine wpAny_ready (rs := [17]) (by kernel_rfl) (by simp) ?_
    refine AllReady.cons rfl (fun K hK => ?_) AllReady.nil
    go_simp
    refine hK _ _ ?_
    clear hK K
    refine wpAny_done (by kernel_rfl) ?_ _
    go_wp2_with (fail)
    go_meet
    case rel => exact ⟨HX3.out, (HX4.out.other (by omega) _ _).other (by omega) _ _, (below_set (below_set HX5.out (Nat.le_refl _) _ _) (Nat.le_refl _) _ _).drew⟩
  case rest =>
  obtain ⟨hy, hre, hb⟩ := hcut
  rename World => w2
  have HY := Lib.hid hy
  have HY4 := Lib.hid hre
  have HY5 := Lib.hid hb
  clear hy hre hb a1 a2 f1 f2 b1 HX1 HX3
  have HON := Lib.hid HR.out.one
  go_wp2_with (first
    | (refine wpList_load_row rfl 32 _ rfl w.heap.size (by rfl) 32 (innL r wk st ot ⟨.slice A1 m1 c1, .slice A2 m2 c2, .slice A3 m3 c3, .slice A4 m4 c4, .slice A5 m5 c5⟩).toArray (0, 0) _ HY.out Try.underlying32 rfl inn_info ?_)
    | (refine wpList_storeC rfl _ _ 32 rfl (w.heap.size + 1) 32 zeroL (innL r wk st ot ⟨.slice A1 m1 c1, .slice A2 m2 c2, .slice A3 m3 c3, .slice A4 m4 c4, .slice A5 m5 c5⟩).toArray inn_info (by rfl) (by rfl) HY4.out rfl (inn_one _ _ _ _ HON.out) ?_))
  refine ret_cell (g := w.heap.size + 1) (xs := innL r wk st ot ⟨.slice A1 m1 c1, .slice A2 m2 c2, .slice A3 m3 c3, .slice A4 m4 c4, .slice A5 m5 c5⟩) rfl rfl (blk_row HY4.out _) Try.underlying32 rfl inn_info rfl ?_
  exact ⟨_, rfl, HR.out, row_below HY5.out (by omega) _⟩
end Go.Proofs.Ytjlmlafiojpjmaa
