/-
  CreaseKeeps: the walk.
-/
import Derived.Test.YtjlmlafiojpjmaaCrX
import Derived.Test.YtjlmlafiojpjmaaCrQ
import Derived.Test.YtjlmlafiojpjmaaCrK
import Derived.Test.YtjlmlafiojpjmaaCrW
import Derived.Deep.DeepCutAuto
import Derived.Deep.RegionHeld3
import Derived.Deep.CutBlock
import Derived.BigGuard
set_option linter.unusedSimpArgs false
set_option linter.unusedVariables false
namespace Go.Proofs.Ytjlmlafiojpjmaa
open Go.RowKit
set_option maxRecDepth 100000
set_option maxHeartbeats 4000000
/-- What a call of the layer leaves alone. -/
structure Kept (J K : Inn) : Prop where
  r : K.r = J.r
  bo : K.bo = J.bo
  be : K.be = J.be
  bd : K.bd = J.bd
  sb : K.sb = J.sb
  n : K.b.length = J.b.length
  wk : K.wk = J.wk ∨ K.wk = wrap64 (J.wk + 1)
theorem Kept.same (J : Inn) : Kept J J := ⟨rfl, rfl, rfl, rfl, rfl, rfl, .inl rfl⟩
theorem kept_dis {J K : Inn} (h : Kept J K) (hw : K.wk = J.wk) (p : Int) : Kept J (dismissS K p) := by
  unfold dismissS
  split
  · exact ⟨h.r, h.bo, h.be, h.bd, h.sb, by show (K.b.set _ _).length = _; rw [List.length_set]; exact h.n, .inr (by show wrap64 (K.wk + 1) = _; rw [hw])⟩
  · exact ⟨h.r, h.bo, h.be, h.bd, h.sb, h.n, .inr (by show wrap64 (K.wk + 1) = _; rw [hw])⟩
theorem keep_open (J : Inn) (a c : Int) : Kept J (openS J a c).1 ∧ ((openS J a c).2 ≠ 0 → (openS J a c).1 = J) := by
  unfold openS
  split
  · exact ⟨Kept.same J, fun _ => rfl⟩
  · split
    · exact ⟨Kept.same J, fun _ => rfl⟩
    · split
      · exact ⟨Kept.same J, fun _ => rfl⟩
      · exact ⟨⟨rfl, rfl, rfl, rfl, rfl, by show ((J.b.set _ _).set _ _).length = _; rw [List.length_set, List.length_set], .inl rfl⟩, fun h => absurd rfl h⟩
theorem kept_swap (J : Inn) (sw : Bool) : Kept J (swapJ J sw) ∧ (swapJ J sw).wk = J.wk := by
  unfold swapJ
  split <;> exact ⟨⟨rfl, rfl, rfl, rfl, rfl, rfl, .inl rfl⟩, rfl⟩
theorem kept_vac {J K : Inn} (h : Kept J K) (hw : K.wk = J.wk) (o : Int) (sw : Bool) : Kept J (vacJ K o sw) ∧ (vacJ K o sw).wk = J.wk := by
  unfold vacJ
  split <;> exact ⟨⟨h.r, h.bo, h.be, h.bd, h.sb, h.n, .inl hw⟩, hw⟩
theorem keep_ran (J : Inn) (d : Dl) : Kept J (ranS J d) := by
  unfold ranS
  have h := kept_swap J (swS d)
  split
  · exact h.1
  · have h2 := kept_vac h.1 h.2 (outS J d) (swS d)
    exact kept_dis h2.1 h2.2 _
theorem keep_enter (J : Inn) (p : Int) : Kept J (enterS J p).1 ∧ ((enterS J p).2 ≠ 0 → (enterS J p).1 = J) := by
  unfold enterS
  split
  · refine ⟨?_, fun h => absurd rfl h⟩
    show Kept J (entJ J _)
    unfold entJ
    split <;> exact ⟨rfl, rfl, rfl, rfl, rfl, by show (J.b.set _ _).length = _; rw [List.length_set], .inl rfl⟩
  · exact ⟨Kept.same J, fun _ => rfl⟩
theorem keep_timeout (J : Inn) (p : Int) : Kept J (timeoutS J p).1 ∧ ((timeoutS J p).2 ≠ 0 → (timeoutS J p).1 = J) := by
  unfold timeoutS
  split
  · exact ⟨kept_dis (Kept.same J) rfl _, fun h => absurd rfl h⟩
  · exact ⟨Kept.same J, fun _ => rfl⟩
theorem kept_ret (J : Inn) (p : Int) : Kept J (retJ J p) ∧ (retJ J p).wk = J.wk := by
  unfold retJ
  split <;> exact ⟨⟨rfl, rfl, rfl, rfl, rfl, rfl, .inl rfl⟩, rfl⟩
theorem keep_retire (J : Inn) (p : Int) (hurt : Bool) : Kept J (retireS J p hurt).1 ∧ ((retireS J p hurt).2 ≠ 0 → (retireS J p hurt).1 = J) := by
  unfold retireS
  split
  · exact ⟨Kept.same J, fun _ => rfl⟩
  split
  · exact ⟨Kept.same J, fun _ => rfl⟩
  split
  · exact ⟨Kept.same J, fun _ => rfl⟩
  split
  · exact ⟨Kept.same J, fun _ => rfl⟩
  split
  · have h := kept_ret J p
    exact ⟨⟨h.1.r, h.1.bo, h.1.be, h.1.bd, h.1.sb, by show (J.b.set _ _).length = _; rw [List.length_set], .inl h.2⟩, fun h => absurd rfl h⟩
  · have h := kept_ret J p
    exact ⟨kept_dis h.1 h.2 _, fun h => absurd rfl h⟩
theorem keep_do (J : Inn) (a : Ac) : Kept J (doS J a).1 ∧ ((doS J a).2 ≠ 0 → (doS J a).1 = J) := by
  unfold doS
  split
  · exact keep_open _ _ _
  · split
    · exact ⟨keep_ran _ _, fun h => absurd rfl h⟩
    · split
      · exact ⟨⟨rfl, rfl, rfl, rfl, rfl, rfl, .inl rfl⟩, fun h => absurd rfl h⟩
      · split
        · exact keep_enter _ _
        · split
          · exact keep_timeout _ _
          · exact keep_retire _ _ _
theorem more_is {x y : Int} (h : y = x ∨ y = wrap64 (x + 1)) (hx : -9223372036854775808 ≤ x ∧ x ≤ 9223372036854775807) : wrap64 (y - x) = 0 ∨ wrap64 (y - x) = 1 := by
  unfold wrap64 at *
  rcases h with rfl | rfl <;> omega
theorem act_info : (Try.prog.info? 46).map (·.size) = some 16 := by kernel_rfl
theorem cells_kept {J K : Inn} {U : Ls} {v : Value} (h : Kept J K) : { K with st := J.st, ot := J.ot, wk := J.wk }.cells { U with b := v } = J.cells ⟨v, U.bo, U.be, U.bd, U.sb⟩ := by
  unfold Inn.cells
  rw [h.r]
/-- The law behind do. -/
structure Kp (w wb wr : World) (gi gw go : Nat) (J : Inn) (Vi Vw : Ls) (K : Inn) (U : Ls) (bs : List Int) : Prop where
  inn : Blk wb gi 32 (J.cells Vi)
  was : Blk wb gw 32 (J.cells Vw)
  ri : InnR wb Vi J
  rw' : InnR wb Vw J
  out : Blk wr go 32 (K.cells U)
  own : InnO wr wb.heap.size U { K with b := bs }
  awa : U.Away go
  hgo : wb.heap.size ≤ go
  bel : Below wb.heap.size wb wr
  belw : Below w.heap.size w wb
theorem Kp.to {w wb wr wx : World} {gi gw go : Nat} {J K : Inn} {Vi Vw U : Ls} {bs : List Int} (h : Kp w wb wr gi gw go J Vi Vw K U bs) (hb : Below wr.heap.size wr wx) : Kp w wb wx gi gw go J Vi Vw K U bs :=
  ⟨h.inn, h.was, h.ri, h.rw', h.out.to hb, h.own.to hb, h.awa, h.hgo, cur_step1 h.bel hb, h.belw⟩
theorem Kp.setB {w wb wr : World} {gi gw go : Nat} {J K : Inn} {Vi Vw U : Ls} {bs : List Int} (h : Kp w wb wr gi gw go J Vi Vw K U bs) {b c : Nat} (hV : U.b = .slice (some ⟨b, 0, none⟩) bs.length c) (P : Nat) (x : Int) : Kp w wb (wr.setCell ⟨b, P, none⟩ (.int .u8 x)) gi gw go J Vi Vw K U (bs.set P x) := by
  have hk : U.b.ownBlock = some b := by rw [hV]; rfl
  have hb := (own_range h.own.b b hk).1
  exact ⟨h.inn, h.was, h.ri, h.rw', h.out.other (fun e => h.awa.b b hk e.symm) _ _, h.own.setB hV P x, h.awa, h.hgo, below_set h.bel hb _ _, h.belw⟩
def KpR (w wb : World) (gi gw go : Nat) (J : Inn) (Vi Vw : Ls) (K : Inn) (U : Ls) (i : Value) (wr : World) : Prop := ∃ (k : Nat) (bs : List Int), k ≤ K.b.length ∧ bs.length = K.b.length ∧ i = .int .i64 k ∧ Kp w wb wr gi gw go J Vi Vw K U bs
theorem law_keeps (I : Inn) (a : Ac) (A1 A2 A3 A4 A5 : Option Addr) (n1 n2 n3 n4 n5 c1 c2 c3 c4 c5 : Nat) (w : World) (hV : InnR w ⟨.slice A1 n1 c1, .slice A2 n2 c2, .slice A3 n3 c3, .slice A4 n4 c4, .slice A5 n5 c5⟩ I)
    (h1 : I.b.length = n1) (h2 : I.bo.length = n2) (h3 : I.be.length = n3) (h4 : I.bd.length = n4) (h5 : I.sb.length = n5) (k1 : n1 ≤ c1) (k2 : n2 ≤ c2) (k3 : n3 ≤ c3) (k4 : n4 ≤ c4) (k5 : n5 ≤ c5)
    (g1 : c1 ≤ 9223372036854775807) (g2 : c2 ≤ 9223372036854775807) (g3 : c3 ≤ 9223372036854775807) (g4 : c4 ≤ 9223372036854775807) (g5 : c5 ≤ 9223372036854775807)
    (hw : -9223372036854775808 ≤ I.wk ∧ I.wk ≤ 9223372036854775807) (ha : 0 ≤ a.kind ∧ a.kind ≤ 255) :
    Calls Try.prog 4 #[.agg (I.cells ⟨.slice A1 n1 c1, .slice A2 n2 c2, .slice A3 n3 c3, .slice A4 n4 c4, .slice A5 n5 c5⟩).toArray, .agg (acC a).toArray] w fun e w' => e = .returned (.bool true) ∧ Below w.heap.size w w' := by
  obtain ⟨V, hVV⟩ : ∃ V : Ls, V = ⟨.slice A1 n1 c1, .slice A2 n2 c2, .slice A3 n3 c3, .slice A4 n4 c4, .slice A5 n5 c5⟩ := ⟨_, rfl⟩
  rw [← hVV] at hV ⊢
  have HFEW := Lib.hid (fun wx => by
    rw [hVV] at hV ⊢
    exact few_p I A1 A2 A3 A4 A5 n1 n2 n3 n4 n5 c1 c2 c3 c4 c5 wx w hV h1 h2 h3 h4 h5 k1 k2 k3 k4 k5 g1 g2 g3 g4 g5 : ∀ wx, Calls Try.prog 11 #[.agg (I.cells V).toArray] wx fun e w' => ∃ U, e = .returned (.agg ((fewI I).cells U).toArray) ∧ InnR w U (fewI I) ∧ Below wx.heap.size wx w')
  have HV := Lib.hid hV
  have HA := Lib.hid ha
  have HW := Lib.hid hw
  obtain ⟨hin, hac, hb0⟩ := entry2 w (I.cells V) (acC a) 32 46
  obtain ⟨w0, hw0⟩ : ∃ y, (w.alloc (.cells (I.cells V).toArray 32)).alloc (.cells (acC a).toArray 46) = y := ⟨_, rfl⟩
  rw [hw0] at hin hac hb0
  have S0 := Lib.hid hw0
  have HI := Lib.hid hin
  have HC := Lib.hid hac
  have HB := Lib.hid hb0
  clear hV hVV h1 h2 h3 h4 h5 k1 k2 k3 k4 k5 g1 g2 g3 g4 g5 hw ha hin hac hb0 hw0
  go_enter Try.func4, Try.ntmps4
  go_wp2_with (rw [S0.out])
  refine (awake_any _).mono ?_
  rintro e w1 ⟨rfl, hb1⟩
  have HI1 := Lib.hid (HI.out.to hb1)
  have HC1 := Lib.hid (HC.out.to hb1)
  have HB1 := Lib.hid (cur_step1 HB.out hb1)
  clear hb1 HI HC HB
  go_wp2_with (refine wpList_load_row rfl 32 _ rfl w.heap.size (by rfl) 32 (I.cells V).toArray (0, 0) _ HI1.out Try.underlying32 rfl inn_info ?_)
  refine (HFEW.out w1).mono ?_
  rintro e w2 ⟨U1, rfl, hr2, hb2⟩
  obtain ⟨J, hJ⟩ : ∃ J, fewI I = J := ⟨_, rfl⟩
  have HJF := Lib.hid (show J.Few by rw [← hJ]; exact fewI_few I)
  have HJW := Lib.hid (show -9223372036854775808 ≤ J.wk ∧ J.wk ≤ 9223372036854775807 by rw [← hJ]; exact HW.out)
  rw [hJ] at hr2 ⊢
  have HO1 := Lib.hid hr2.one
  have HR2 := Lib.hid hr2
  have HI2 := Lib.hid (HI1.out.to hb2)
  have HC2 := Lib.hid (HC1.out.to hb2)
  have HB2 := Lib.hid (cur_step1 HB1.out hb2)
  have hlt1 : w.heap.size + 1 < w2.heap.size := HC2.out.lt
  clear hr2 hb2 hJ HI1 HC1 HB1 HFEW HW HV
  go_upto_region 4 with (refine wpList_storeC rfl _ _ 32 rfl w.heap.size 32 (I.cells V) (J.cells U1).toArray inn_info (by rfl) (by rfl) HI2.out rfl (Inn.one _ HO1.out) ?_)
  obtain ⟨w3, hw3⟩ : ∃ y, w2.setRow w.heap.size (J.cells U1).toArray = y := ⟨_, rfl⟩
  have HI3 := Lib.hid (show Blk w3 w.heap.size 32 (J.cells U1) by rw [← hw3]; exact blk_row HI2.out _)
  have HC3 := Lib.hid (show Blk w3 (w.heap.size + 1) 46 (acC a) by rw [← hw3]; exact HC2.out.row_other (by omega) _)
  have HB3 := Lib.hid (show Below w.heap.size w w3 by rw [← hw3]; exact row_below HB2.out (Nat.le_refl _) _)
  rw [hw3]
  clear hw3 HI2 HC2 HB2
  go_wp2_with (refine wpList_load_row rfl 32 _ rfl w.heap.size (by rfl) 32 (J.cells U1).toArray (0, 0) _ HI3.out Try.underlying32 rfl inn_info ?_)
  refine (clone_r J U1 w3 HJF.out (HR2.out.to HB3.out)).mono ?_
  rintro e w4 ⟨V2, rfl, ho4, hb4⟩
  obtain ⟨w5, hw5⟩ : ∃ y, w4.alloc (.cells (J.cells V2).toArray 32) = y := ⟨_, rfl⟩
  have S5 := Lib.hid hw5
  have hb5 := cur_new w4 (.cells (J.cells V2).toArray 32)
  have hn5 := Blk.new w4 32 (J.cells V2)
  rw [hw5] at hb5 hn5
  have HO4 := Lib.hid ho4.ones
  have HO5 := Lib.hid ((ho4.to hb5).mono HB3.out.size)
  have HW5 := Lib.hid hn5
  have HI5 := Lib.hid ((HI3.out.to hb4).to hb5)
  have HC5 := Lib.hid ((HC3.out.to hb4).to hb5)
  have HB5 := Lib.hid (cur_step1 (cur_step1 HB3.out hb4) hb5)
  clear ho4 hb4 hb5 hn5 hw5 HI3 HC3 HB3
  go_upto_region 5 with (first
    | (refine wpList_storeNew rfl _ _ 32 rfl _ (J.cells V2).toArray inn_info (by rfl) (by rfl) rfl (Inn.one _ HO4.out) ?_; rw [S5.out]))
  obtain ⟨gw, hgw⟩ : ∃ y, w4.heap.size = y := ⟨_, rfl⟩
  rw [hgw] at HW5 ⊢
  clear hgw S5
  go_wp2_with (first
    | (refine wpList_load_row rfl 32 _ rfl w.heap.size (by rfl) 32 (J.cells U1).toArray (0, 0) _ HI5.out Try.underlying32 rfl inn_info ?_)
    | (refine wpList_load_row rfl 46 _ rfl (w.heap.size + 1) (by rfl) 46 (acC a).toArray (0, 0) _ HC5.out Try.underlying46 rfl act_info ?_))
  refine (do_p J U1 a w5 HJF.out (HR2.out.to HB5.out) HA.out).mono ?_
  rintro e w6 ⟨U, rfl, ho6, hb6⟩
  obtain ⟨K, v, hKv⟩ : ∃ K v, doS J a = (K, v) := ⟨_, _, rfl⟩
  have HKP := Lib.hid (show Kept J K ∧ (v ≠ 0 → K = J) by have h := keep_do J a; rw [hKv] at h; exact h)
  rw [hKv] at ho6 ⊢
  dsimp only at ho6 ⊢
  obtain ⟨w7, hw7⟩ : ∃ y, w6.alloc (.cells (K.cells U).toArray 32) = y := ⟨_, rfl⟩
  have S7 := Lib.hid hw7
  have hb7 := cur_new w6 (.cells (K.cells U).toArray 32)
  have hn7 := Blk.new w6 32 (K.cells U)
  rw [hw7] at hb7 hn7
  have HO6 := Lib.hid ho6.ones
  have hgo := hb6.size
  have HKK := Lib.hid (show Kp w w5 w7 w.heap.size gw w6.heap.size J U1 V2 K U K.b from ⟨HI5.out, HW5.out, HR2.out.to HB5.out, HO5.out.rd, hn7, ho6.to hb7, ho6.away (.inr (Nat.le_refl _)), hgo, cur_step1 hb6 hb7, HB5.out⟩)
  clear ho6 hb6 hb7 hn7 hw7 hKv hgo HO5
  go_upto_region 6 with (first
    | (refine wpList_storeNew rfl _ _ 32 rfl _ (K.cells U).toArray inn_info (by rfl) (by rfl) rfl (Inn.one _ HO6.out) ?_; rw [S7.out]))
  obtain ⟨go, hgo2⟩ : ∃ y, w6.heap.size = y := ⟨_, rfl⟩
  rw [hgo2] at HKK ⊢
  clear hgo2 S7
  by_cases hv : v = 0
  · subst hv
    have HKE := Lib.hid HKP.out.1
    clear HKP
    have hbs : (stC K.b).length = K.b.length := stC_len _
    obtain ⟨A0, cc, hUb, hcc⟩ := HKK.out.own.rd.b.form
    obtain ⟨n, hn⟩ : ∃ n, K.b.length = n := ⟨_, rfl⟩
    have hn1 : n ≤ 1000 := by rw [← hn, HKE.out.n]; exact HJF.out.b
    have hUbn : U.b = .slice A0 n cc := by rw [hUb, stC_len]; show Value.slice A0 K.b.length cc = _; rw [hn]
    have HN := Lib.hid hn
    have HU := Lib.hid hUbn
    clear hbs hUb hcc hn hUbn
    have c14 : w7.cell? ⟨go, 14, none⟩ = some U.b := HKK.out.out.cell 14
    go_wp2_with (fail)
    refine (clone_st U.b (stC K.b) w7 (by rw [stC_len, HN.out]; omega) HKK.out.own.rd.b (stC_one _)).mono ?_
    rintro e w8 ⟨vb, rfl, ho8, hb8⟩
    obtain ⟨A8, c8, hf8⟩ := own_form ho8
    have hf9 : vb = .slice A8 n c8 := by rw [hf8, stC_len, HN.out]
    have HK8 := Lib.hid (HKK.out.to hb8)
    have c14 : w8.cell? ⟨go, 14, none⟩ = some (.slice A0 n cc) := by rw [← HU.out]; exact HK8.out.out.cell 14
    clear ho8 hb8 hf8
    subst hf9
    go_wp2_with (fail)
    go_loopw [9, 39] (fun p i wr => KpR w w5 w.heap.size gw go J U1 V2 K U i wr) (fun _ i _ => n - (intOf i).toNat)
    case atStart => exact ⟨0, K.b, by omega, rfl, rfl, HK8.out⟩
    case round =>
      obtain ⟨k, bs, hk, hbl, rfl, hkp⟩ := hrel
      have HP := Lib.hid hkp
      have HBL := Lib.hid hbl
      rw [HN.out] at hk
      clear hkp c14 hbl
      by_cases hkn : k < n
      · obtain ⟨b0, c0, hVb, hkc, hbb, hbl2⟩ := HP.out.own.blk (by show 0 < bs.length; rw [HBL.out, HN.out]; omega)
        have e1 := HU.out
        rw [hVb] at e1
        injection e1 with e11 e12 e13
        subst e11 e13
        have hVbs : U.b = .slice (some ⟨b0, 0, none⟩) bs.length c0 := hVb
        obtain ⟨x, hx⟩ : ∃ x, bs[k]? = some x := ⟨_, List.getElem?_eq_getElem (by rw [HBL.out, HN.out]; exact hkn)⟩
        have hob := HP.out.own.b
        rw [hVb, stC_len] at hob
        have d14 : wr.cell? ⟨go, 14, none⟩ = some (.slice (some ⟨b0, 0, none⟩) n c0) := by rw [← HU.out]; exact HP.out.out.cell 14
        have hks : k < bs.length := by rw [HBL.out, HN.out]; exact hkn
        have d1 : wr.cell? ⟨b0, k, none⟩ = some (.int .u8 x) := (hob.cellAt k (by show k < bs.length * 1; omega)).trans (stC_at hx)
        have d2 := hob.frozenAt k
        have HPB := Lib.hid (HP.out.setB hVbs k ((x + 1) % 256))
        have hkc0 : k < c0 := by have : bs.length ≤ c0 := hkc; omega
        clear hVb hVbs hob hx hkc
        go_wp2_with (fail)
        exact ⟨⟨k + 1, _, by rw [HN.out]; exact hkn, by rw [List.length_set, HBL.out], by simp, HPB.out⟩, by simp [intOf]; omega⟩
      · clear hk
        go_wp2_with (first
          | (refine wpList_load_row rfl 32 _ rfl w.heap.size (by rfl) 32 (J.cells U1).toArray (0, 0) _ (HP.out.inn.below HP.out.bel HP.out.inn.lt) Try.underlying32 rfl inn_info ?_)
          | (refine wpList_load_row rfl 32 _ rfl gw (by rfl) 32 (J.cells V2).toArray (0, 0) _ (HP.out.was.below HP.out.bel HP.out.was.lt) Try.underlying32 rfl inn_info ?_))
        refine (same_t J U1 V2 wr HJF.out (HP.out.ri.to HP.out.bel) (HP.out.rw'.to HP.out.bel)).mono ?_
        rintro e w9 ⟨rfl, hb9⟩
        have HP9 := Lib.hid (HP.out.to hb9)
        clear hb9 HP
        obtain ⟨A9, c9, hV9, hc9⟩ := HP9.out.rw'.b.form
        have hV9n : V2.b = .slice A9 n c9 := by rw [hV9, stC_len, ← HKE.out.n, HN.out]
        have HV9 := Lib.hid hV9n
        have HUF := Lib.hid (HP9.out.own.rd.b.form)
        have z1 : w9.cell? ⟨go, 14, none⟩ = some (.slice A0 n cc) := by rw [← HU.out]; exact HP9.out.out.cell 14
        have z2 := HP9.out.out.frozen 14
        obtain ⟨wa, hwa⟩ : ∃ y, w9.setCell ⟨go, 14, none⟩ (.slice A8 n c8) = y := ⟨_, rfl⟩
        have SA := Lib.hid hwa
        have HOA := Lib.hid (show Blk wa go 32 (K.cells { U with b := .slice A8 n c8 }) by rw [← hwa]; exact HP9.out.out.set 14 _)
        have HWA := Lib.hid (show InnO wa w5.heap.size U { K with b := bs } by rw [← hwa]; exact HP9.out.own.other HP9.out.awa _ _)
        have HBA := Lib.hid (show Below w5.heap.size w5 wa by rw [← hwa]; exact below_set HP9.out.bel HP9.out.hgo _ _)
        have HAW := Lib.hid HP9.out.awa
        have HGO := Lib.hid HP9.out.hgo
        have HWW := Lib.hid HP9.out.belw
        have HQ9 := Lib.hid HP9.out.was
        have HR9 := Lib.hid HP9.out.rw'
        clear hwa hV9 hV9n HP9 hc9
        go_upto_region 17 with (rw [SA.out])
        obtain ⟨kw, hkw⟩ : ∃ y, K.wk = y := ⟨_, rfl⟩
        obtain ⟨jw, hjw⟩ : ∃ y, J.wk = y := ⟨_, rfl⟩
        obtain ⟨js, hjs⟩ : ∃ y, J.st = y := ⟨_, rfl⟩
        obtain ⟨jo, hjo⟩ : ∃ y, J.ot = y := ⟨_, rfl⟩
        have HWAS := HQ9.out.below HBA.out HQ9.out.lt
        have x1 : wa.cell? ⟨go, 4, none⟩ = some (.int .i64 kw) := by rw [← hkw]; exact HOA.out.cell 4
        have x2 : wa.cell? ⟨go, 14, none⟩ = some (.slice A8 n c8) := HOA.out.cell 14
        have y1 : wa.cell? ⟨gw, 12, none⟩ = some (.int .i64 js) := by rw [← hjs]; exact HWAS.cell 12
        have y2 : wa.cell? ⟨gw, 13, none⟩ = some (.int .i64 jo) := by rw [← hjo]; exact HWAS.cell 13
        have y3 : wa.cell? ⟨gw, 14, none⟩ = some (.slice A9 n c9) := by rw [← HV9.out]; exact HWAS.cell 14
        have y4 : wa.cell? ⟨gw, 4, none⟩ = some (.int .i64 jw) := by rw [← hjw]; exact HWAS.cell 4
        have hmo := more_is HKE.out.wk HJW.out
        rw [hkw, hjw] at hmo
        obtain ⟨mo, hm⟩ : ∃ y, wrap64 (kw - jw) = y := ⟨_, rfl⟩
        rw [hm] at hmo
        have HSS := Lib.hid (And.intro hkw (And.intro hjw (And.intro hjs hjo)))
        have f12 := HOA.out.frozen 12
        have f13 := HOA.out.frozen 13
        have f14 := HOA.out.frozen 14
        have f4 := HOA.out.frozen 4
        have a12 : wa.cell? ⟨go, 12, none⟩ = some (.int .i64 K.st) := HOA.out.cell 12
        have HO1' := Lib.hid (HOA.out.set 12 (.int .i64 js))
        have b13 : (wa.setCell ⟨go, 12, none⟩ (.int .i64 js)).cell? ⟨go, 13, none⟩ = some (.int .i64 K.ot) := HO1'.out.cell 13
        have g13 := HO1'.out.frozen 13
        have HO2' := Lib.hid (HO1'.out.set 13 (.int .i64 jo))
        have b14 : ((wa.setCell ⟨go, 12, none⟩ (.int .i64 js)).setCell ⟨go, 13, none⟩ (.int .i64 jo)).cell? ⟨go, 14, none⟩ = some (.slice A8 n c8) := HO2'.out.cell 14
        have g14 := HO2'.out.frozen 14
        have HO3' := Lib.hid (HO2'.out.set 14 (.slice A9 n c9))
        have b4 : (((wa.setCell ⟨go, 12, none⟩ (.int .i64 js)).setCell ⟨go, 13, none⟩ (.int .i64 jo)).setCell ⟨go, 14, none⟩ (.slice A9 n c9)).cell? ⟨go, 4, none⟩ = some (.int .i64 kw) := by rw [← hkw]; exact HO3'.out.cell 4
        have g4 := HO3'.out.frozen 4
        have HO4' := Lib.hid (show Blk ((((wa.setCell ⟨go, 12, none⟩ (.int .i64 js)).setCell ⟨go, 13, none⟩ (.int .i64 jo)).setCell ⟨go, 14, none⟩ (.slice A9 n c9)).setCell ⟨go, 4, none⟩ (.int .i64 jw)) go 32 (J.cells ⟨V2.b, U.bo, U.be, U.bd, U.sb⟩) by
          have h := HO3'.out.set 4 (.int .i64 jw)
          rw [HV9.out, ← cells_kept (U := U) (v := .slice A9 n c9) HKE.out, hjw, hjs, hjo]
          exact h)
        clear hkw hjw hjs hjo HWAS
        rcases hmo with hmo | hmo
        all_goals
          subst hmo
          go_upto_region 20 with (fail)
          have hne : go ≠ gw := by have := HGO.out; have := HQ9.out.lt; omega
          have hne2 : gw ≠ go := fun e => hne e.symm
          go_region_held3 (fun w' => w'.cell? ⟨gw, 12, none⟩ = some (.int .i64 js) ∧ w'.cell? ⟨gw, 13, none⟩ = some (.int .i64 jo) ∧ w'.cell? ⟨gw, 14, none⟩ = some (.slice A9 n c9) ∧ w'.cell? ⟨gw, 4, none⟩ = some (.int .i64 jw))
            (first | go_keep)
            (fail)
          obtain ⟨wz, hwz⟩ : ∃ y, ((((wa.setCell ⟨go, 12, none⟩ (.int .i64 js)).setCell ⟨go, 13, none⟩ (.int .i64 jo)).setCell ⟨go, 14, none⟩ (.slice A9 n c9)).setCell ⟨go, 4, none⟩ (.int .i64 jw)).drew = y := ⟨_, rfl⟩
          have HZ := Lib.hid (show Blk wz go 32 (J.cells ⟨V2.b, U.bo, U.be, U.bd, U.sb⟩) by rw [← hwz]; exact HO4'.out)
          have HBZ := Lib.hid (show Below w5.heap.size w5 wz by rw [← hwz]; exact (below_set (below_set (below_set (below_set HBA.out HGO.out _ _) HGO.out _ _) HGO.out _ _) HGO.out _ _).drew)
          have HIZ := Lib.hid (show InnO wz w5.heap.size U { K with b := bs } by rw [← hwz]; exact (((((HWA.out.other HAW.out _ _).other HAW.out _ _).other HAW.out _ _).other HAW.out _ _).to ((Below.refl _ _).drew)))
          have HWZ := Lib.hid (show InnR wz ⟨V2.b, U.bo, U.be, U.bd, U.sb⟩ J from by
            have h1 := HR9.out.to HBZ.out
            have h2 := HIZ.out.rd
            refine ⟨h1.b, ?_, ?_, ?_, ?_⟩
            · have := h2.bo; rw [show ({ K with b := bs } : Inn).bo = J.bo from HKE.out.bo] at this; exact this
            · have := h2.be; rw [show ({ K with b := bs } : Inn).be = J.be from HKE.out.be] at this; exact this
            · have := h2.bd; rw [show ({ K with b := bs } : Inn).bd = J.bd from HKE.out.bd] at this; exact this
            · have := h2.sb; rw [show ({ K with b := bs } : Inn).sb = J.sb from HKE.out.sb] at this; exact this)
          rw [hwz]
          clear hwz
          go_wp2_with (first
            | (refine wpList_load_row rfl 32 _ rfl go (by rfl) 32 (J.cells ⟨V2.b, U.bo, U.be, U.bd, U.sb⟩).toArray (0, 0) _ HZ.out Try.underlying32 rfl inn_info ?_)
            | (refine wpList_load_row rfl 32 _ rfl gw (by rfl) 32 (J.cells V2).toArray (0, 0) _ (HQ9.out.below HBZ.out HQ9.out.lt) Try.underlying32 rfl inn_info ?_))
          refine (same_t J ⟨V2.b, U.bo, U.be, U.bd, U.sb⟩ V2 wz HJF.out HWZ.out (HR9.out.to HBZ.out)).mono ?_
          rintro e wy ⟨rfl, hby⟩
          have HBY := Lib.hid (cur_step1 HWW.out (cur_step1 HBZ.out hby))
          clear hby
          go_wp2_with (fail)
          go_ret
          exact ⟨rfl, HBY.out⟩
  · have HE := Lib.hid (HKP.out.2 hv)
    have gv : (v != 0) = true := by simpa using hv
    clear hv HKP
    go_wp2_with (first
      | (refine wpList_load_row rfl 32 _ rfl w.heap.size (by rfl) 32 (J.cells U1).toArray (0, 0) _ (HKK.out.inn.below HKK.out.bel HKK.out.inn.lt) Try.underlying32 rfl inn_info ?_)
      | (refine wpList_load_row rfl 32 _ rfl gw (by rfl) 32 (J.cells V2).toArray (0, 0) _ (HKK.out.was.below HKK.out.bel HKK.out.was.lt) Try.underlying32 rfl inn_info ?_))
    refine (same_t J U1 V2 w7 HJF.out (HKK.out.ri.to HKK.out.bel) (HKK.out.rw'.to HKK.out.bel)).mono ?_
    rintro e w8 ⟨rfl, hb8⟩
    have HK8 := Lib.hid (HKK.out.to hb8)
    clear hb8
    go_wp2_with (first
      | (refine wpList_load_g (by rfl) 32 _ rfl go (by rfl) 32 (K.cells U).toArray (0, 0) _ HK8.out.out Try.underlying32 rfl inn_info ?_)
      | (refine wpList_load_g (by rfl) 32 _ rfl gw (by rfl) 32 (J.cells V2).toArray (0, 0) _ (HK8.out.was.below HK8.out.bel HK8.out.was.lt) Try.underlying32 rfl inn_info ?_))
    have hk := HK8.out.own.rd
    have hk2 : InnR w8 U K := hk
    rw [HE.out] at hk2 ⊢
    refine (same_t J U V2 w8 HJF.out hk2 (HK8.out.rw'.to HK8.out.bel)).mono ?_
    rintro e w9 ⟨rfl, hb9⟩
    have HK9 := Lib.hid (HK8.out.to hb9)
    clear hb9
    go_wp2_with (fail)
    go_ret
    exact ⟨rfl, cur_step1 HK9.out.belw HK9.out.bel⟩
end Go.Proofs.Ytjlmlafiojpjmaa
