/-
  Chapter 12: the reference's Clone of a state, with any lists.
-/
import Derived.Test.YtjlmlafiojpjmaaCrD
import Derived.Laws.AppendOwnNone
import Derived.Deep.DeepCutAuto
import Derived.Deep.CutBlock
set_option linter.unusedSimpArgs false
set_option linter.unusedVariables false
namespace Go.Proofs.Ytjlmlafiojpjmaa
open Go.RowKit
set_option maxRecDepth 100000
set_option maxHeartbeats 4000000
/-- 'append([]T{}, l...)', T of one cell, l any list. -/
theorem wpList_cat {P : Program} {w : World} {ops : Array Oper} {rest : List Oper} {o : Oper} {a : Act} {Q : Exit → Act → World → Prop} (hgd : o.guard = none) (s x : Operand) (t : TypeId)
    (ho : o.op = .call { callee := .builtin .append, args := #[s, x], argTypes := #[t, t] })
    (base : Nat) (e : TypeId) (z : Value) (bytes : Nat) (ht : P.underlying t = some (.slice e)) (hinfo : (P.info? e).map (fun i => (i.zero, i.size, i.bytes)) = some (some z, 1, bytes)) (hzs : z.cells.size = 1) (hbt : bytes ≤ 100)
    (v : Value) (hs : a.eval s = v) (hown : w.ownsRow base e 1 v 0 []) (u : Value) (xs : List Value) (hx : a.eval x = u) (hu : Lst w u xs) (h1 : ∀ y ∈ xs, y.oneCell' = true) (hl : xs.length ≤ 1000000) (hbase : base ≤ w.heap.size)
    (h : ∀ v' w', w'.ownsRow base e 1 v' xs.length xs → Below w.heap.size w w' ∨ w.grownBy w' v.ownBlock → wpList P ops Q rest (a.put o.dst v') w') : wpList P ops Q (o :: rest) a w := by
  obtain ⟨i, hi, hz, hsz, hby⟩ := info_parts hinfo
  rcases hu with ⟨rfl, rfl⟩ | ⟨b, off, c, rfl, hc, hlt, hcell⟩ | ⟨ad, c, rfl, rfl⟩
  · exact wpList_append_own_none hgd s x t ho base e i 1 ht hi v 0 [] hs hown hx (h v w hown (.inl (Below.refl _ _)))
  · refine wpList_append_own w hgd s x t ho base e i z 1 bytes ht hi hz hsz hby hzs (by decide) v 0 [] hs hown ⟨b, off, none⟩ xs.length c xs hx (by omega) (fun j y hj => by rw [Addr.add_lit]; exact hcell j y hj) h1 (by unfold maxLen; omega) ?_ hbase fun v' w' h2 h3 _ => h v' w' (by simpa using h2) (.inr h3)
    have : (0 + xs.length) * bytes ≤ 1000000 * 100 := Nat.mul_le_mul (by omega) hbt
    omega
  · refine wpList_append_own w hgd s x t ho base e i z 1 bytes ht hi hz hsz hby hzs (by decide) v 0 [] hs hown ad 0 c [] hx (by simp) (fun j y hj => by simp at hj) (fun u hu => by cases hu) (by decide) (by simp) hbase fun v' w' h2 h3 _ => h v' w' (by simpa using h2) (.inr h3)
theorem cat_below {w wk : World} {B : Nat} {g : Nat} {n c : Nat} {u : Value} (hv : u = .slice (some ⟨g, 0, none⟩) n c) (hg : B ≤ g) (hB : B ≤ w.heap.size) (h : Below w.heap.size w wk ∨ w.grownBy wk u.ownBlock) : Below B w wk := by
  subst hv
  rcases h with h | h
  · exact h.mono hB
  · exact (Below.refl B w).grown h hB (by intro k hk; injection hk with hk; subst hk; exact hg)
theorem clone_r (I : Inn) (V : Ls) (w : World) (hl : I.Few) (hV : InnR w V I) :
    Calls Try.prog 12 #[.agg (I.cells V).toArray] w fun e w' => ∃ V', e = .returned (.agg (I.cells V').toArray) ∧ InnO w' w.heap.size V' I ∧ Below w.heap.size w w' := by
  obtain ⟨r, wk, st, ot, lb, lbo, lbe, lbd, lsb⟩ := I
  obtain ⟨b, bo, be, bd, sb⟩ := V
  obtain ⟨l1, l2, l3, l4, l5⟩ := hl
  dsimp only at l1 l2 l3 l4 l5
  obtain ⟨r1, r2, r3, r4, r5⟩ := hV
  dsimp only at r1 r2 r3 r4 r5
  show Calls Try.prog 12 #[innV r wk st ot ⟨b, bo, be, bd, sb⟩] w _
  have R1 := Lib.hid r1
  have R2 := Lib.hid r2
  have R3 := Lib.hid r3
  have R4 := Lib.hid r4
  have R5 := Lib.hid r5
  clear r1 r2 r3 r4 r5
  obtain ⟨hin, hre, hb0⟩ := entry2 w (innL r wk st ot ⟨b, bo, be, bd, sb⟩) [.int .i64 0, .int .i64 0, .int .i64 0, .int .i64 0, .int .i64 0, .int .i64 0, .int .i64 0, .int .i64 0, .int .i64 0, .int .i64 0, .int .i64 0, .int .i64 0, .int .i64 0, .int .i64 0, .slice none 0 0, .int .i64 0, .slice none 0 0, .slice none 0 0, .bool false, .slice none 0 0, .bool false, .int .i64 0, .int .i64 0, .int .i64 0, .slice none 0 0, .int .i64 0, .int .i64 0, .int .u8 0] 32 32
  obtain ⟨w0, hw0⟩ : ∃ y, (w.alloc (.cells (innL r wk st ot ⟨b, bo, be, bd, sb⟩).toArray 32)).alloc (.cells [.int .i64 0, .int .i64 0, .int .i64 0, .int .i64 0, .int .i64 0, .int .i64 0, .int .i64 0, .int .i64 0, .int .i64 0, .int .i64 0, .int .i64 0, .int .i64 0, .int .i64 0, .int .i64 0, .slice none 0 0, .int .i64 0, .slice none 0 0, .slice none 0 0, .bool false, .slice none 0 0, .bool false, .int .i64 0, .int .i64 0, .int .i64 0, .slice none 0 0, .int .i64 0, .int .i64 0, .int .u8 0].toArray 32) = y := ⟨_, rfl⟩
  rw [hw0] at hin hre hb0
  have S0 := Lib.hid hw0
  have HQ := Lib.hid hin
  have HRE := Lib.hid hre
  have HB := Lib.hid hb0
  have hlt0 : w.heap.size + 1 < w0.heap.size := hre.lt
  clear hin hre hb0 hw0
  go_enter Try.func12, Try.ntmps12
  go_upto_region 1 with (rw [S0.out])
  have c1 : w0.cell? ⟨w.heap.size, 14, none⟩ = some b := HQ.out.cell 14
  obtain ⟨x0, hx0⟩ : ∃ y, w0.alloc (.cells #[] 50) = y := ⟨_, rfl⟩
  have SX := Lib.hid hx0
  have HBX := Lib.hid (show Below w0.heap.size w0 x0 by rw [← hx0]; exact cur_new _ _)
  have HOX := Lib.hid (show x0.ownsRow w0.heap.size 50 1 (.slice (some ⟨w0.heap.size, 0, none⟩) 0 0) 0 [] by rw [← hx0]; exact World.ownsRow_made w0 #[] 0 (Nat.le_refl _) (Nat.zero_le _) (by simp))
  have c2 : x0.cell? ⟨w.heap.size, 14, none⟩ = some b := (HQ.out.to HBX.out).cell 14
  clear hx0
  go_upto_region 2 with (first
    | rw [SX.out]
    | (refine wpList_cat rfl _ _ 26 rfl w0.heap.size 50 (.int .u8 0) 1 Try.underlying26 (by kernel_rfl) (by kernel_rfl) (by decide) _ rfl HOX.out b (stC lb) rfl (R1.out.to (cur_step1 HB.out HBX.out)) (stC_one _) (by rw [stC_len]; omega) HBX.out.size ?_; intro v' wn ho hg; have HG := Lib.hid (HBX.out.trans (cat_below (B := w0.heap.size) rfl (Nat.le_refl _) HBX.out.size hg)); obtain ⟨A0, k0, rfl⟩ := own_form ho; have HOW := Lib.hid ho; have hqn := HQ.out.to HG.out; have c3 : wn.cell? ⟨w.heap.size, 14, none⟩ = some b := hqn.cell 14; have f3 := hqn.frozen 14; clear ho hg hqn))
  rename World => wn
  have hwl := HG.out.size
  obtain ⟨v0, hv0⟩ : ∃ y, Value.slice A0 (stC lb).length k0 = y := ⟨_, rfl⟩
  have HV0 := Lib.hid hv0
  rw [hv0] at HOW
  have HR0 := Lib.hid (own_range HOW.out)
  have hnb : ∀ k, v0.ownBlock = some k → k ≠ w.heap.size := fun k hk => by have := HR0.out k hk; omega
  obtain ⟨w1, hw1⟩ : ∃ y, wn.setCell ⟨w.heap.size, 14, none⟩ v0 = y := ⟨_, rfl⟩
  rw [hv0, hw1]
  have HSZ : w1.heap.size = wn.heap.size := by rw [← hw1]; simp
  have HO0 := Lib.hid (show w1.ownsRow w0.heap.size 50 1 v0 (stC lb).length (stC lb) by rw [← hw1]; exact own_other HOW.out hnb _ _)
  have HRE := Lib.hid (show Blk w1 (w.heap.size + 1) 32 zeroL by rw [← hw1]; exact (HRE.out.to HG.out).other (by omega) _ _)
  have HQ := Lib.hid (show Blk w1 w.heap.size 32 (innL r wk st ot ⟨v0, bo, be, bd, sb⟩) by rw [← hw1]; exact (HQ.out.to HG.out).set 14 v0)
  have HB := Lib.hid (show Below w.heap.size w w1 by rw [← hw1]; exact below_set (cur_step1 HB.out HG.out) (Nat.le_refl _) _ _)
  have hlt1 : w.heap.size + 1 < w1.heap.size := by omega
  have hm0 : w0.heap.size ≤ w1.heap.size := by omega
  rw [← HSZ] at HR0
  clear c1 c2 c3 f3 SX HBX HOX HG HOW hnb hw1 hv0 hwl HSZ
  have c1 : w1.cell? ⟨w.heap.size, 16, none⟩ = some bo := HQ.out.cell 16
  obtain ⟨x1, hx1⟩ : ∃ y, w1.alloc (.cells #[] 3) = y := ⟨_, rfl⟩
  have SX := Lib.hid hx1
  have HBX := Lib.hid (show Below w1.heap.size w1 x1 by rw [← hx1]; exact cur_new _ _)
  have HOX := Lib.hid (show x1.ownsRow w1.heap.size 3 1 (.slice (some ⟨w1.heap.size, 0, none⟩) 0 0) 0 [] by rw [← hx1]; exact World.ownsRow_made w1 #[] 0 (Nat.le_refl _) (Nat.zero_le _) (by simp))
  have c2 : x1.cell? ⟨w.heap.size, 16, none⟩ = some bo := (HQ.out.to HBX.out).cell 16
  clear hx1
  go_upto_region 3 with (first
    | rw [SX.out]
    | (refine wpList_cat rfl _ _ 27 rfl w1.heap.size 3 (.int .i64 0) 8 Try.underlying27 (by kernel_rfl) (by kernel_rfl) (by decide) _ rfl HOX.out bo (inC lbo) rfl (R2.out.to (cur_step1 HB.out HBX.out)) (inC_one _) (by rw [inC_len]; omega) HBX.out.size ?_; intro v' wn ho hg; have HG := Lib.hid (HBX.out.trans (cat_below (B := w1.heap.size) rfl (Nat.le_refl _) HBX.out.size hg)); obtain ⟨A1, k1, rfl⟩ := own_form ho; have HOW := Lib.hid ho; have hqn := HQ.out.to HG.out; have c3 : wn.cell? ⟨w.heap.size, 16, none⟩ = some bo := hqn.cell 16; have f3 := hqn.frozen 16; clear ho hg hqn))
  rename World => wn
  have hwl := HG.out.size
  obtain ⟨v1, hv1⟩ : ∃ y, Value.slice A1 (inC lbo).length k1 = y := ⟨_, rfl⟩
  have HV1 := Lib.hid hv1
  rw [hv1] at HOW
  have HR1 := Lib.hid (own_range HOW.out)
  have hnb : ∀ k, v1.ownBlock = some k → k ≠ w.heap.size := fun k hk => by have := HR1.out k hk; omega
  obtain ⟨w2, hw2⟩ : ∃ y, wn.setCell ⟨w.heap.size, 16, none⟩ v1 = y := ⟨_, rfl⟩
  rw [hv1, hw2]
  have HSZ : w2.heap.size = wn.heap.size := by rw [← hw2]; simp
  have HO1 := Lib.hid (show w2.ownsRow w1.heap.size 3 1 v1 (inC lbo).length (inC lbo) by rw [← hw2]; exact own_other HOW.out hnb _ _)
  have HO0 := Lib.hid (show w2.ownsRow w0.heap.size 50 1 v0 (stC lb).length (stC lb) by rw [← hw2]; exact own_other (own_below HO0.out HG.out (Nat.le_refl _)) (fun k hk => by have := HR0.out k hk; omega) _ _)
  have HRE := Lib.hid (show Blk w2 (w.heap.size + 1) 32 zeroL by rw [← hw2]; exact (HRE.out.to HG.out).other (by omega) _ _)
  have HQ := Lib.hid (show Blk w2 w.heap.size 32 (innL r wk st ot ⟨v0, v1, be, bd, sb⟩) by rw [← hw2]; exact (HQ.out.to HG.out).set 16 v1)
  have HB := Lib.hid (show Below w.heap.size w w2 by rw [← hw2]; exact below_set (cur_step1 HB.out HG.out) (Nat.le_refl _) _ _)
  have hlt2 : w.heap.size + 1 < w2.heap.size := by omega
  have hm1 : w1.heap.size ≤ w2.heap.size := by omega
  rw [← HSZ] at HR1
  clear c1 c2 c3 f3 SX HBX HOX HG HOW hnb hw2 hv1 hwl HSZ
  have c1 : w2.cell? ⟨w.heap.size, 17, none⟩ = some be := HQ.out.cell 17
  obtain ⟨x2, hx2⟩ : ∃ y, w2.alloc (.cells #[] 3) = y := ⟨_, rfl⟩
  have SX := Lib.hid hx2
  have HBX := Lib.hid (show Below w2.heap.size w2 x2 by rw [← hx2]; exact cur_new _ _)
  have HOX := Lib.hid (show x2.ownsRow w2.heap.size 3 1 (.slice (some ⟨w2.heap.size, 0, none⟩) 0 0) 0 [] by rw [← hx2]; exact World.ownsRow_made w2 #[] 0 (Nat.le_refl _) (Nat.zero_le _) (by simp))
  have c2 : x2.cell? ⟨w.heap.size, 17, none⟩ = some be := (HQ.out.to HBX.out).cell 17
  clear hx2
  go_upto_region 4 with (first
    | rw [SX.out]
    | (refine wpList_cat rfl _ _ 27 rfl w2.heap.size 3 (.int .i64 0) 8 Try.underlying27 (by kernel_rfl) (by kernel_rfl) (by decide) _ rfl HOX.out be (inC lbe) rfl (R3.out.to (cur_step1 HB.out HBX.out)) (inC_one _) (by rw [inC_len]; omega) HBX.out.size ?_; intro v' wn ho hg; have HG := Lib.hid (HBX.out.trans (cat_below (B := w2.heap.size) rfl (Nat.le_refl _) HBX.out.size hg)); obtain ⟨A2, k2, rfl⟩ := own_form ho; have HOW := Lib.hid ho; have hqn := HQ.out.to HG.out; have c3 : wn.cell? ⟨w.heap.size, 17, none⟩ = some be := hqn.cell 17; have f3 := hqn.frozen 17; clear ho hg hqn))
  rename World => wn
  have hwl := HG.out.size
  obtain ⟨v2, hv2⟩ : ∃ y, Value.slice A2 (inC lbe).length k2 = y := ⟨_, rfl⟩
  have HV2 := Lib.hid hv2
  rw [hv2] at HOW
  have HR2 := Lib.hid (own_range HOW.out)
  have hnb : ∀ k, v2.ownBlock = some k → k ≠ w.heap.size := fun k hk => by have := HR2.out k hk; omega
  obtain ⟨w3, hw3⟩ : ∃ y, wn.setCell ⟨w.heap.size, 17, none⟩ v2 = y := ⟨_, rfl⟩
  rw [hv2, hw3]
  have HSZ : w3.heap.size = wn.heap.size := by rw [← hw3]; simp
  have HO2 := Lib.hid (show w3.ownsRow w2.heap.size 3 1 v2 (inC lbe).length (inC lbe) by rw [← hw3]; exact own_other HOW.out hnb _ _)
  have HO0 := Lib.hid (show w3.ownsRow w0.heap.size 50 1 v0 (stC lb).length (stC lb) by rw [← hw3]; exact own_other (own_below HO0.out HG.out (Nat.le_refl _)) (fun k hk => by have := HR0.out k hk; omega) _ _)
  have HO1 := Lib.hid (show w3.ownsRow w1.heap.size 3 1 v1 (inC lbo).length (inC lbo) by rw [← hw3]; exact own_other (own_below HO1.out HG.out (Nat.le_refl _)) (fun k hk => by have := HR1.out k hk; omega) _ _)
  have HRE := Lib.hid (show Blk w3 (w.heap.size + 1) 32 zeroL by rw [← hw3]; exact (HRE.out.to HG.out).other (by omega) _ _)
  have HQ := Lib.hid (show Blk w3 w.heap.size 32 (innL r wk st ot ⟨v0, v1, v2, bd, sb⟩) by rw [← hw3]; exact (HQ.out.to HG.out).set 17 v2)
  have HB := Lib.hid (show Below w.heap.size w w3 by rw [← hw3]; exact below_set (cur_step1 HB.out HG.out) (Nat.le_refl _) _ _)
  have hlt3 : w.heap.size + 1 < w3.heap.size := by omega
  have hm2 : w2.heap.size ≤ w3.heap.size := by omega
  rw [← HSZ] at HR2
  clear c1 c2 c3 f3 SX HBX HOX HG HOW hnb hw3 hv2 hwl HSZ
  have c1 : w3.cell? ⟨w.heap.size, 19, none⟩ = some bd := HQ.out.cell 19
  obtain ⟨x3, hx3⟩ : ∃ y, w3.alloc (.cells #[] 3) = y := ⟨_, rfl⟩
  have SX := Lib.hid hx3
  have HBX := Lib.hid (show Below w3.heap.size w3 x3 by rw [← hx3]; exact cur_new _ _)
  have HOX := Lib.hid (show x3.ownsRow w3.heap.size 3 1 (.slice (some ⟨w3.heap.size, 0, none⟩) 0 0) 0 [] by rw [← hx3]; exact World.ownsRow_made w3 #[] 0 (Nat.le_refl _) (Nat.zero_le _) (by simp))
  have c2 : x3.cell? ⟨w.heap.size, 19, none⟩ = some bd := (HQ.out.to HBX.out).cell 19
  clear hx3
  go_upto_region 5 with (first
    | rw [SX.out]
    | (refine wpList_cat rfl _ _ 27 rfl w3.heap.size 3 (.int .i64 0) 8 Try.underlying27 (by kernel_rfl) (by kernel_rfl) (by decide) _ rfl HOX.out bd (inC lbd) rfl (R4.out.to (cur_step1 HB.out HBX.out)) (inC_one _) (by rw [inC_len]; omega) HBX.out.size ?_; intro v' wn ho hg; have HG := Lib.hid (HBX.out.trans (cat_below (B := w3.heap.size) rfl (Nat.le_refl _) HBX.out.size hg)); obtain ⟨A3, k3, rfl⟩ := own_form ho; have HOW := Lib.hid ho; have hqn := HQ.out.to HG.out; have c3 : wn.cell? ⟨w.heap.size, 19, none⟩ = some bd := hqn.cell 19; have f3 := hqn.frozen 19; clear ho hg hqn))
  rename World => wn
  have hwl := HG.out.size
  obtain ⟨v3, hv3⟩ : ∃ y, Value.slice A3 (inC lbd).length k3 = y := ⟨_, rfl⟩
  have HV3 := Lib.hid hv3
  rw [hv3] at HOW
  have HR3 := Lib.hid (own_range HOW.out)
  have hnb : ∀ k, v3.ownBlock = some k → k ≠ w.heap.size := fun k hk => by have := HR3.out k hk; omega
  obtain ⟨w4, hw4⟩ : ∃ y, wn.setCell ⟨w.heap.size, 19, none⟩ v3 = y := ⟨_, rfl⟩
  rw [hv3, hw4]
  have HSZ : w4.heap.size = wn.heap.size := by rw [← hw4]; simp
  have HO3 := Lib.hid (show w4.ownsRow w3.heap.size 3 1 v3 (inC lbd).length (inC lbd) by rw [← hw4]; exact own_other HOW.out hnb _ _)
  have HO0 := Lib.hid (show w4.ownsRow w0.heap.size 50 1 v0 (stC lb).length (stC lb) by rw [← hw4]; exact own_other (own_below HO0.out HG.out (Nat.le_refl _)) (fun k hk => by have := HR0.out k hk; omega) _ _)
  have HO1 := Lib.hid (show w4.ownsRow w1.heap.size 3 1 v1 (inC lbo).length (inC lbo) by rw [← hw4]; exact own_other (own_below HO1.out HG.out (Nat.le_refl _)) (fun k hk => by have := HR1.out k hk; omega) _ _)
  have HO2 := Lib.hid (show w4.ownsRow w2.heap.size 3 1 v2 (inC lbe).length (inC lbe) by rw [← hw4]; exact own_other (own_below HO2.out HG.out (Nat.le_refl _)) (fun k hk => by have := HR2.out k hk; omega) _ _)
  have HRE := Lib.hid (show Blk w4 (w.heap.size + 1) 32 zeroL by rw [← hw4]; exact (HRE.out.to HG.out).other (by omega) _ _)
  have HQ := Lib.hid (show Blk w4 w.heap.size 32 (innL r wk st ot ⟨v0, v1, v2, v3, sb⟩) by rw [← hw4]; exact (HQ.out.to HG.out).set 19 v3)
  have HB := Lib.hid (show Below w.heap.size w w4 by rw [← hw4]; exact below_set (cur_step1 HB.out HG.out) (Nat.le_refl _) _ _)
  have hlt4 : w.heap.size + 1 < w4.heap.size := by omega
  have hm3 : w3.heap.size ≤ w4.heap.size := by omega
  rw [← HSZ] at HR3
  clear c1 c2 c3 f3 SX HBX HOX HG HOW hnb hw4 hv3 hwl HSZ
  have c1 : w4.cell? ⟨w.heap.size, 24, none⟩ = some sb := HQ.out.cell 24
  obtain ⟨x4, hx4⟩ : ∃ y, w4.alloc (.cells #[] 4) = y := ⟨_, rfl⟩
  have SX := Lib.hid hx4
  have HBX := Lib.hid (show Below w4.heap.size w4 x4 by rw [← hx4]; exact cur_new _ _)
  have HOX := Lib.hid (show x4.ownsRow w4.heap.size 4 1 (.slice (some ⟨w4.heap.size, 0, none⟩) 0 0) 0 [] by rw [← hx4]; exact World.ownsRow_made w4 #[] 0 (Nat.le_refl _) (Nat.zero_le _) (by simp))
  have c2 : x4.cell? ⟨w.heap.size, 24, none⟩ = some sb := (HQ.out.to HBX.out).cell 24
  clear hx4
  go_upto_region 6 with (first
    | rw [SX.out]
    | (refine wpList_cat rfl _ _ 28 rfl w4.heap.size 4 (.bool false) 1 Try.underlying28 (by kernel_rfl) (by kernel_rfl) (by decide) _ rfl HOX.out sb (boC lsb) rfl (R5.out.to (cur_step1 HB.out HBX.out)) (boC_one _) (by rw [boC_len]; omega) HBX.out.size ?_; intro v' wn ho hg; have HG := Lib.hid (HBX.out.trans (cat_below (B := w4.heap.size) rfl (Nat.le_refl _) HBX.out.size hg)); obtain ⟨A4, k4, rfl⟩ := own_form ho; have HOW := Lib.hid ho; have hqn := HQ.out.to HG.out; have c3 : wn.cell? ⟨w.heap.size, 24, none⟩ = some sb := hqn.cell 24; have f3 := hqn.frozen 24; clear ho hg hqn))
  rename World => wn
  have hwl := HG.out.size
  obtain ⟨v4, hv4⟩ : ∃ y, Value.slice A4 (boC lsb).length k4 = y := ⟨_, rfl⟩
  have HV4 := Lib.hid hv4
  rw [hv4] at HOW
  have HR4 := Lib.hid (own_range HOW.out)
  have hnb : ∀ k, v4.ownBlock = some k → k ≠ w.heap.size := fun k hk => by have := HR4.out k hk; omega
  obtain ⟨w5, hw5⟩ : ∃ y, wn.setCell ⟨w.heap.size, 24, none⟩ v4 = y := ⟨_, rfl⟩
  rw [hv4, hw5]
  have HSZ : w5.heap.size = wn.heap.size := by rw [← hw5]; simp
  have HO4 := Lib.hid (show w5.ownsRow w4.heap.size 4 1 v4 (boC lsb).length (boC lsb) by rw [← hw5]; exact own_other HOW.out hnb _ _)
  have HO0 := Lib.hid (show w5.ownsRow w0.heap.size 50 1 v0 (stC lb).length (stC lb) by rw [← hw5]; exact own_other (own_below HO0.out HG.out (Nat.le_refl _)) (fun k hk => by have := HR0.out k hk; omega) _ _)
  have HO1 := Lib.hid (show w5.ownsRow w1.heap.size 3 1 v1 (inC lbo).length (inC lbo) by rw [← hw5]; exact own_other (own_below HO1.out HG.out (Nat.le_refl _)) (fun k hk => by have := HR1.out k hk; omega) _ _)
  have HO2 := Lib.hid (show w5.ownsRow w2.heap.size 3 1 v2 (inC lbe).length (inC lbe) by rw [← hw5]; exact own_other (own_below HO2.out HG.out (Nat.le_refl _)) (fun k hk => by have := HR2.out k hk; omega) _ _)
  have HO3 := Lib.hid (show w5.ownsRow w3.heap.size 3 1 v3 (inC lbd).length (inC lbd) by rw [← hw5]; exact own_other (own_below HO3.out HG.out (Nat.le_refl _)) (fun k hk => by have := HR3.out k hk; omega) _ _)
  have HRE := Lib.hid (show Blk w5 (w.heap.size + 1) 32 zeroL by rw [← hw5]; exact (HRE.out.to HG.out).other (by omega) _ _)
  have HQ := Lib.hid (show Blk w5 w.heap.size 32 (innL r wk st ot ⟨v0, v1, v2, v3, v4⟩) by rw [← hw5]; exact (HQ.out.to HG.out).set 24 v4)
  have HB := Lib.hid (show Below w.heap.size w w5 by rw [← hw5]; exact below_set (cur_step1 HB.out HG.out) (Nat.le_refl _) _ _)
  have hlt5 : w.heap.size + 1 < w5.heap.size := by omega
  have hm4 : w4.heap.size ≤ w5.heap.size := by omega
  rw [← HSZ] at HR4
  clear c1 c2 c3 f3 SX HBX HOX HG HOW hnb hw5 hv4 hwl HSZ
  have HON := Lib.hid (Ls.One.mk (V := ⟨v0, v1, v2, v3, v4⟩) (Lst.own HO0.out).one (Lst.own HO1.out).one (Lst.own HO2.out).one (Lst.own HO3.out).one (Lst.own HO4.out).one)
  have z1 := HO1.out
  have hbb : ∀ k, v0.ownBlock = some k → v1.ownBlock ≠ some k ∧ v2.ownBlock ≠ some k ∧ v3.ownBlock ≠ some k ∧ v4.ownBlock ≠ some k := fun k hk =>
    have hr := HR0.out k hk
    ⟨fun e => by have := HR1.out k e; omega, fun e => by have := HR2.out k e; omega, fun e => by have := HR3.out k e; omega, fun e => by have := HR4.out k e; omega⟩
  have HOO := Lib.hid (InnO.mk (w := w5) (base := w.heap.size) (V := ⟨v0, v1, v2, v3, v4⟩) (I := ⟨r, wk, st, ot, lb, lbo, lbe, lbd, lsb⟩) (own_mono HO0.out (by omega)) (own_mono HO1.out (by omega)) (own_mono HO2.out (by omega)) (own_mono HO3.out (by omega)) (own_mono HO4.out (by omega)) hbb)
  have HAW := Lib.hid (Ls.Away.mk (V := ⟨v0, v1, v2, v3, v4⟩) (g := w.heap.size + 1) (fun k hk => by have := HR0.out k hk; omega) (fun k hk => by have := HR1.out k hk; omega) (fun k hk => by have := HR2.out k hk; omega) (fun k hk => by have := HR3.out k hk; omega) (fun k hk => by have := HR4.out k hk; omega))
  clear hbb z1
  go_wp2_with (first
    | (refine wpList_load_row rfl 32 _ rfl w.heap.size (by rfl) 32 (innL r wk st ot ⟨v0, v1, v2, v3, v4⟩).toArray (0, 0) _ HQ.out Try.underlying32 rfl inn_info ?_)
    | (refine wpList_storeC rfl _ _ 32 rfl (w.heap.size + 1) 32 zeroL (innL r wk st ot ⟨v0, v1, v2, v3, v4⟩).toArray inn_info (by rfl) (by rfl) HRE.out rfl (inn_one _ _ _ _ HON.out) ?_))
  refine ret_cell (g := w.heap.size + 1) (xs := innL r wk st ot ⟨v0, v1, v2, v3, v4⟩) rfl rfl (blk_row HRE.out _) Try.underlying32 rfl inn_info rfl ?_
  exact ⟨_, rfl, HOO.out.row HAW.out _, row_below HB.out (by omega) _⟩
end Go.Proofs.Ytjlmlafiojpjmaa
