/-
  Chapter 58: Commit of the reference.
-/
import Derived.Test.YtimmlffgokgekaaVrR58
import Derived.Test.YtimmlffgokgekaaCom58
import Derived.Test.YtimmlffgokgekaaMrR
import Derived.Test.YtimmlffgokgekaaArcQ
set_option linter.unusedSimpArgs false
set_option linter.unusedVariables false
namespace Go.Proofs.Ytimmlffgokgekaa
open Go.RowKit
set_option maxRecDepth 100000
set_option maxHeartbeats 20000000
theorem ret_cell4 {P : Program} {fn : Func} {R : Ending → World → Prop} {a : Act} {w : World} {p q r s : Tmp} {ty : TypeId} {g : Nat} {e : TypeId} {xs : List Value} {d : TypeDesc} {u v z : Value} (h : fn.results = #[.cell p ty, .tmp q, .tmp r, .tmp s])
    (hp : a.tmps.getD p undef = .pointer (some ⟨g, 0, none⟩)) (hq : a.tmps.getD q undef = u) (hr : a.tmps.getD r undef = v) (hs : a.tmps.getD s undef = z) (hg : Blk w g e xs) (hu : P.underlying ty = some d) (hd : (match d with | .struct _ | .array _ _ => true | _ => false) = true) (hi : (P.info? ty).map (·.size) = some xs.length)
    (hdf : a.defers = []) (hR : R (.returned (.tuple #[.agg xs.toArray, u, v, z])) w) : bodyPost P fn R .ret a w := by
  refine ⟨hdf, _, ?_, hR⟩
  have hl := run_loadVar_row (P := P) w g e ty xs.toArray (0, 0) d hg hu hd (by simpa using hi)
  have hp' : a.tmps[p]?.getD undef = .pointer (some ⟨g, 0, none⟩) := by simpa using hp
  have hq' : a.tmps[q]?.getD undef = u := by simpa using hq
  have hr' : a.tmps[r]?.getD undef = v := by simpa using hr
  have hs' : a.tmps[s]?.getD undef = z := by simpa using hs
  simp [results, h, hp', hq', hr', hs', asAddr, hl]
theorem commit_r (V : Option Addr) (c : Nat) (vs : List Vr) (base : Int) (A : Option Addr) (cf : Nat) (f : List Ent) (w : World) (hn : vs.length ≤ 64) (hf12 : f.length ≤ 12) (hsc : ∀ x ∈ f, x.sc.size ≤ 20) (hrd : Rd entE 21 w w.heap.size A f) (hA : RefS V vs w)
    (hls : ∀ v ∈ vs, GoodA v.l ∧ (∀ x ∈ v.l, x.sc.size ≤ 20)) (hlen : ∀ k, hasB vs.length k = true → (fileV vs k).length + (fileV vs vs.length).length + f.length ≤ 400)
    (RR : Ending → World → Prop) (hbad : comE vs.length base f ≠ 0 → ∀ w', Below w.heap.size w w' → RR (.returned (.tuple #[.agg #[.slice V vs.length c], .int .i64 0, .slice none 0 0, .int .i64 (comE vs.length base f)])) w')
    (hgood : comE vs.length base f = 0 → ∀ w' V' c' v2 a' c2, RefS V' (vs ++ [⟨base, a', c2, comF vs base f⟩]) w' → OwnL inE 1 42 w.heap.size w' v2 (comC vs base f) → Below w.heap.size w w' →
      (∀ b o, V' = some ⟨b, o, none⟩ → w.heap.size ≤ b ∧ b < w'.heap.size) → (∀ b o, a' = some ⟨b, o, none⟩ → w.heap.size ≤ b ∧ b < w'.heap.size) → RR (.returned (.tuple #[.agg #[.slice V' (vs.length + 1) c'], .int .i64 ((vs.length : Int) + 1), v2, .int .i64 0])) w') :
    Calls Try.prog 26 #[.agg #[.slice V vs.length c], .int .i64 base, .slice A f.length cf] w RR := by
  have HSC := Lib.hid hsc
  have HRD := Lib.hid hrd
  have HA := Lib.hid hA
  have HLS := Lib.hid hls
  have HLEN := Lib.hid hlen
  have HBAD := Lib.hid hbad
  have HGOOD := Lib.hid hgood
  clear hsc hrd hA hls hlen hbad hgood
  obtain ⟨ce, hce⟩ : ∃ ce, comE vs.length base f = ce := ⟨_, rfl⟩
  rw [hce] at HBAD HGOOD
  have HCE := Lib.hid hce
  clear hce
  obtain ⟨Wa, hWa⟩ : ∃ y, w.alloc (.cells #[.slice V vs.length c] 60) = y := ⟨_, rfl⟩
  have hsa : Wa.heap.size = w.heap.size + 1 := by rw [← hWa]; simp
  obtain ⟨W0, hW0⟩ : ∃ y, Wa.alloc (.cells #[.slice none 0 0] 60) = y := ⟨_, rfl⟩
  have ba : Below w.heap.size w Wa := by rw [← hWa]; exact cur_new _ _
  have bb : Below Wa.heap.size Wa W0 := by rw [← hW0]; exact cur_new _ _
  have HK0 := Lib.hid (show Blk W0 w.heap.size 60 [.slice V vs.length c] from Blk.to (show Blk Wa w.heap.size 60 [.slice V vs.length c] by rw [← hWa]; exact Blk.new _ _ _) bb)
  have HZ0 := Lib.hid (show Blk W0 (w.heap.size + 1) 60 [.slice none 0 0] by rw [← hsa, ← hW0]; exact Blk.new _ _ _)
  have HB0 := Lib.hid (cur_step1 ba bb)
  clear ba bb
  go_enter Try.func26, Try.ntmps26
  go_upto_region 1 with (fail)
  try rw [hWa, hW0]
  try rw [hsa]
  clear hWa hW0 hsa
  refine wp_region_lit ?_
  refine wpList_loadC rfl _ 60 rfl w.heap.size 60 [.slice V vs.length c] _ rfl (by rfl) (by rfl) (by rfl) HK0.out ?_
  go_wp2_with (fail)
  refine (head_r W0 V vs.length c).mono ?_
  rintro e w1 ⟨rfl, hb1⟩
  have HK1 := Lib.hid (HK0.out.to hb1)
  have HZ1 := Lib.hid (HZ0.out.to hb1)
  have HB1 := Lib.hid (cur_step1 HB0.out hb1)
  clear hb1
  go_wp2_with (fail)
  refine (chka_r f A cf w1 (by omega) (fun x hx => Nat.le_trans (HSC.out x hx) (by decide)) (HRD.out.to HB1.out)).mono ?_
  rintro e w2 ⟨rfl, hb2⟩
  have HK2 := Lib.hid (HK1.out.to hb2)
  have HZ2 := Lib.hid (HZ1.out.to hb2)
  have HB2 := Lib.hid (cur_step1 HB1.out hb2)
  clear hb2
  by_cases hc : chkA f = 0
  · rw [hc]
    have HCF := Lib.hid hc
    clear hc
    obtain ⟨hh, hhh⟩ : ∃ hh, hasB vs.length base = hh := ⟨_, rfl⟩
    by_cases hno : hh = false ∧ ¬ (base = 0 ∧ vs.length = 0)
    · have HE := Lib.hid (show ce = 6 by rw [← HCE.out]; unfold comE; rw [if_neg (by rw [HCF.out]; simp), hhh, if_pos hno])
      have hcase : base < 0 ∨ (¬ base < 0 ∧ (vs.length : Int) < base) ∨ (base = 0 ∧ 0 < (vs.length : Int)) := by
        obtain ⟨h1, h2⟩ := hno
        rw [h1] at hhh
        unfold hasB at hhh
        simp at hhh
        omega
      clear hno hhh
      rcases hcase with h1 | ⟨h1, h2⟩ | ⟨h1, h2⟩
      · have d1 : decide (base < 0) = true := decide_eq_true h1
        clear h1
        go_upto_region 6 with (fail)
        refine wp_region_lit ?_
        refine wpList_loadC rfl _ 60 rfl w.heap.size 60 [.slice V vs.length c] _ rfl (by rfl) (by rfl) (by rfl) HK2.out ?_
        refine wpList_storeC rfl _ _ 60 rfl (w.heap.size + 1) 60 [.slice none 0 0] ([.slice V vs.length c] : List Value).toArray arR_info (by rfl) (by rfl) HZ2.out (by rfl) (by simp [Value.oneCell']) ?_
        have HZ3 := Lib.hid (blk_row HZ2.out #[.slice V vs.length c])
        have HB3 := Lib.hid (row_below HB2.out (Nat.le_succ _) #[.slice V vs.length c])
        generalize w2.setRow (w.heap.size + 1) #[.slice V vs.length c] = w3 at HZ3 HB3 ⊢
        go_wp2_with (fail)
        refine ret_cell4 (g := w.heap.size + 1) (xs := [.slice V vs.length c]) rfl rfl rfl rfl rfl HZ3.out Try.underlying60 rfl arR_info rfl ?_
        have := HBAD.out (by rw [HE.out]; decide) w3 HB3.out
        rw [HE.out] at this
        exact this
      · have d1 : decide (base < 0) = false := decide_eq_false h1
        have d2 : decide ((vs.length : Int) < base) = true := decide_eq_true h2
        clear h1 h2
        go_upto_region 6 with (fail)
        refine wp_region_lit ?_
        refine wpList_loadC rfl _ 60 rfl w.heap.size 60 [.slice V vs.length c] _ rfl (by rfl) (by rfl) (by rfl) HK2.out ?_
        refine wpList_storeC rfl _ _ 60 rfl (w.heap.size + 1) 60 [.slice none 0 0] ([.slice V vs.length c] : List Value).toArray arR_info (by rfl) (by rfl) HZ2.out (by rfl) (by simp [Value.oneCell']) ?_
        have HZ3 := Lib.hid (blk_row HZ2.out #[.slice V vs.length c])
        have HB3 := Lib.hid (row_below HB2.out (Nat.le_succ _) #[.slice V vs.length c])
        generalize w2.setRow (w.heap.size + 1) #[.slice V vs.length c] = w3 at HZ3 HB3 ⊢
        go_wp2_with (fail)
        refine ret_cell4 (g := w.heap.size + 1) (xs := [.slice V vs.length c]) rfl rfl rfl rfl rfl HZ3.out Try.underlying60 rfl arR_info rfl ?_
        have := HBAD.out (by rw [HE.out]; decide) w3 HB3.out
        rw [HE.out] at this
        exact this
      · subst h1
        have d3 : decide ((0 : Int) < (vs.length : Int)) = true := decide_eq_true h2
        have d2 : decide ((vs.length : Int) < 0) = false := decide_eq_false (by omega)
        have hp1 : 0 < vs.length := by omega
        have hp2 : vs ≠ [] := by intro h; rw [h] at hp1; simp at hp1
        clear h2
        go_upto_region 6 with (fail)
        refine wp_region_lit ?_
        refine wpList_loadC rfl _ 60 rfl w.heap.size 60 [.slice V vs.length c] _ rfl (by rfl) (by rfl) (by rfl) HK2.out ?_
        refine wpList_storeC rfl _ _ 60 rfl (w.heap.size + 1) 60 [.slice none 0 0] ([.slice V vs.length c] : List Value).toArray arR_info (by rfl) (by rfl) HZ2.out (by rfl) (by simp [Value.oneCell']) ?_
        have HZ3 := Lib.hid (blk_row HZ2.out #[.slice V vs.length c])
        have HB3 := Lib.hid (row_below HB2.out (Nat.le_succ _) #[.slice V vs.length c])
        generalize w2.setRow (w.heap.size + 1) #[.slice V vs.length c] = w3 at HZ3 HB3 ⊢
        go_wp2_with (fail)
        refine ret_cell4 (g := w.heap.size + 1) (xs := [.slice V vs.length c]) rfl rfl rfl rfl rfl HZ3.out Try.underlying60 rfl arR_info rfl ?_
        have := HBAD.out (by rw [HE.out]; decide) w3 HB3.out
        rw [HE.out] at this
        exact this
    · have HNO := Lib.hid hno
      have HHH := Lib.hid hhh
      have hrng : ¬ base < 0 ∧ ¬ (vs.length : Int) < base ∧ (base = 0 → ¬ 0 < (vs.length : Int)) := by
        have h3 : hh = true ∨ (base = 0 ∧ vs.length = 0) := by
          cases hh with
          | true => exact Or.inl rfl
          | false =>
            by_cases hx : base = 0 ∧ vs.length = 0
            · exact Or.inr hx
            · exact (hno ⟨rfl, hx⟩).elim
        rcases h3 with h3 | ⟨h4, h5⟩
        · rw [h3] at hhh
          unfold hasB at hhh
          have h6 := of_decide_eq_true hhh
          omega
        · omega
      clear hno hhh
      have d1 : decide (base < 0) = false := decide_eq_false hrng.1
      have d2 : decide ((vs.length : Int) < base) = false := decide_eq_false hrng.2.1
      by_cases h64 : vs.length = 64
      · have HE := Lib.hid (show ce = 9 by rw [← HCE.out]; unfold comE; rw [if_neg (by rw [HCF.out]; simp), HHH.out, if_neg HNO.out, if_pos (by omega)])
        have hb0 : base ≠ 0 := fun h => by have := hrng.2.2 h; omega
        have e0 : (base == 0) = false := by simpa using hb0
        have e64 : ((vs.length : Int) == 64) = true := by simp; omega
        clear h64 hb0 hrng
        go_upto_region 8 with (fail)
        refine wp_region_lit ?_
        refine wpList_loadC rfl _ 60 rfl w.heap.size 60 [.slice V vs.length c] _ rfl (by rfl) (by rfl) (by rfl) HK2.out ?_
        refine wpList_storeC rfl _ _ 60 rfl (w.heap.size + 1) 60 [.slice none 0 0] ([.slice V vs.length c] : List Value).toArray arR_info (by rfl) (by rfl) HZ2.out (by rfl) (by simp [Value.oneCell']) ?_
        have HZ3 := Lib.hid (blk_row HZ2.out #[.slice V vs.length c])
        have HB3 := Lib.hid (row_below HB2.out (Nat.le_succ _) #[.slice V vs.length c])
        generalize w2.setRow (w.heap.size + 1) #[.slice V vs.length c] = w3 at HZ3 HB3 ⊢
        go_wp2_with (fail)
        refine ret_cell4 (g := w.heap.size + 1) (xs := [.slice V vs.length c]) rfl rfl rfl rfl rfl HZ3.out Try.underlying60 rfl arR_info rfl ?_
        have := HBAD.out (by rw [HE.out]; decide) w3 HB3.out
        rw [HE.out] at this
        exact this
      · have HE := Lib.hid (show ce = 0 by rw [← HCE.out]; unfold comE; rw [if_neg (by rw [HCF.out]; simp), HHH.out, if_neg HNO.out, if_neg (by omega)])
        have e64 : ((vs.length : Int) == 64) = false := by simp; omega
        have h64n : vs.length < 64 := by omega
        clear h64
        by_cases hbe : base = (vs.length : Int)
        · by_cases hb0 : base = 0
          · have hv0 : vs.length = 0 := by omega
            have hvs : vs = [] := List.eq_nil_of_length_eq_zero hv0
            have d3 : decide ((0 : Int) < (vs.length : Int)) = false := decide_eq_false (by omega)
            have d4 : decide (0 < vs.length) = false := decide_eq_false (by omega)
            have e0 : (base == 0) = true := by simpa using hb0
            clear hrng hv0 hvs hb0
            have HCF2 := Lib.hid (show comF vs base f = f ∧ comC vs base f = [] by unfold comF comC; rw [if_pos hbe, if_pos hbe]; exact ⟨rfl, rfl⟩)
            have hbn : (base != (vs.length : Int)) = false := by simpa using hbe
            have HBE := Lib.hid hbe
            clear hbe
            obtain ⟨w3, hw3⟩ : ∃ y, w2.alloc (.cells #[] 42) = y := ⟨_, rfl⟩
            have hb3 : Below w2.heap.size w2 w3 := by rw [← hw3]; exact cur_new _ _
            have HCO := Lib.hid (show OwnL inE 1 42 w2.heap.size w3 (.slice (some ⟨w2.heap.size, 0, none⟩) ([] : List Int).length 0) [] by rw [← hw3]; exact World.ownsRow_made w2 #[] 0 (Nat.le_refl _) (Nat.zero_le _) (by simp))
            have HB3 := Lib.hid (cur_step1 HB2.out hb3)
            have HKU := Lib.hid (HK2.out.to hb3)
            have HZU := Lib.hid (HZ2.out.to hb3)
            have HAU := Lib.hid (HA.out.to HB3.out)
            have HRF := Lib.hid (HRD.out.to HB3.out)
            have HFLN := Lib.hid (show f.length ≤ 400 by omega)
            have HZL := Lib.hid (show w.heap.size + 1 < w3.heap.size from HZU.out.lt)
            have HZL2 := Lib.hid (show w.heap.size + 1 < w2.heap.size from HZ2.out.lt)
            clear hb3 HK2 HZ2 HB2
            go_upto_region 10 with (fail)
            try rw [hw3]
            clear hw3

            go_upto_region 17 with (fail)
            refine wp_region_lit ?_
            obtain ⟨x1, hx1⟩ : ∃ y, w3.alloc (.cells #[] 96) = y := ⟨_, rfl⟩
            have hq1 : Below w3.heap.size w3 x1 := by rw [← hx1]; exact cur_new _ _
            have HO1 := Lib.hid (show OwnL verE 2 96 w3.heap.size x1 (.slice (some ⟨w3.heap.size, 0, none⟩) ([] : List Vr).length 0) [] by rw [← hx1]; exact World.ownsRow_made w3 #[] 0 (Nat.le_refl _) (Nat.zero_le _) (by simp))
            have HX1 := Lib.hid hq1
            have HK9 := Lib.hid (HKU.out.to hq1)
            have k0 : x1.cell? ⟨w.heap.size, 0, none⟩ = some (.slice V vs.length c) := HK9.out.cell 0
            clear hq1
            (refine wpList_step (fun K hK => ?_); go_simp; refine hK _ _ ?_; clear hK K)
            try rw [hx1]
            clear hx1
            (refine wpList_step (fun K hK => ?_); go_simp; refine hK _ _ ?_; clear hK K)
            (refine wpList_step (fun K hK => ?_); go_simp; refine hK _ _ ?_; clear hK K)
            refine wpList_appL Try.verElemR x1 rfl (.tmp 78) (.tmp 80) rfl w3.heap.size w3.heap.size 0 [] (by rfl) HO1.out V c vs (by rfl) (HAU.out.row.to HX1.out) (by unfold maxLen; simp; omega) (by simp; omega) HX1.out.size ?_
            intro g2 p2 x2 ho2 hg2 hat2
            have HO2 := Lib.hid (show OwnL verE 2 96 w3.heap.size x2 (.slice (some ⟨g2, 0, none⟩) vs.length p2) vs from ho2)
            have HX2 := Lib.hid (HX1.out.grown hg2 HX1.out.size (fun b hb => by have hb' : w3.heap.size = b := Option.some.inj (show some w3.heap.size = some b from hb); omega))
            have HX2S := Lib.hid HX2.out.size
            clear ho2 hg2 hat2 k0 HK9
            obtain ⟨x3, hx3⟩ : ∃ y, x2.alloc (.cells #[] 39) = y := ⟨_, rfl⟩
            have hq3 : Below x2.heap.size x2 x3 := by rw [← hx3]; exact cur_new _ _
            have HO3 := Lib.hid (show OwnL entE 21 39 x2.heap.size x3 (.slice (some ⟨x2.heap.size, 0, none⟩) ([] : List Ent).length 0) [] by rw [← hx3]; exact World.ownsRow_made x2 #[] 0 (Nat.le_refl _) (Nat.zero_le _) (by simp))
            have HX3 := Lib.hid (cur_step1 HX2.out hq3)
            have HO23 := Lib.hid (own_below HO2.out hq3 (Nat.le_refl _))
            have HQ3 := Lib.hid hq3
            clear hq3
            (refine wpList_step (fun K hK => ?_); go_simp; refine hK _ _ ?_; clear hK K)
            (refine wpList_step (fun K hK => ?_); go_simp; refine hK _ _ ?_; clear hK K)
            try rw [hx3]
            clear hx3
            (refine wpList_step (fun K hK => ?_); go_simp; refine hK _ _ ?_; clear hK K)
            refine wpList_appL Try.enElem x3 rfl (.tmp 83) (.tmp 84) rfl x2.heap.size x2.heap.size 0 [] (by rfl) HO3.out A cf f (by rfl) (HRF.out.to HX3.out) (by unfold maxLen; have := HFLN.out; simp; omega) (by have := HFLN.out; simp; omega) HQ3.out.size ?_
            intro g4 p4 x4 ho4 hg4 hat4
            have HO4 := Lib.hid (show OwnL entE 21 39 x2.heap.size x4 (.slice (some ⟨g4, 0, none⟩) f.length p4) f from ho4)
            have HX4 := Lib.hid (HX3.out.grown hg4 HX3.out.size (fun b hb => by have hb' : x2.heap.size = b := Option.some.inj (show some x2.heap.size = some b from hb); have := HX2.out.size; omega))
            have HO24 := Lib.hid (own_grown HO23.out hg4 (fun b hb e => by have hb' : x2.heap.size = b := Option.some.inj e.symm; have := (own_range HO2.out b hb).2; omega))
            clear ho4 hg4 hat4
            (refine wpList_step (fun K hK => ?_); go_simp; refine hK _ _ ?_; clear hK K)
            refine wpList_buildE Try.verElemR rfl 1 _ rfl [⟨base, some ⟨g4, 0, none⟩, p4, f⟩] rfl (by decide) (by decide) (by rfl) ?_
            rw [show [(⟨base, some ⟨g4, 0, none⟩, p4, f⟩ : Vr)].flatMap verE = verE ⟨base, some ⟨g4, 0, none⟩, p4, f⟩ from List.append_nil _]
            obtain ⟨x5, hx5⟩ : ∃ y, x4.alloc (.cells (verE ⟨base, some ⟨g4, 0, none⟩, p4, f⟩).toArray 96) = y := ⟨_, rfl⟩
            have hq5 : Below x4.heap.size x4 x5 := by rw [← hx5]; exact cur_new _ _
            have hk5 : x5.heap[x4.heap.size]? = some (.cells (verE ⟨base, some ⟨g4, 0, none⟩, p4, f⟩).toArray 96 (0, 0)) := by rw [← hx5]; exact heap_alloc_new _ _
            rw [hx5]
            clear hx5
            refine wpList_app1 Try.verElemR x5 rfl (.tmp 81) (.tmp 87) rfl w3.heap.size (some ⟨g2, 0, none⟩) p2 vs (by rfl) (own_below HO24.out hq5 (Nat.le_refl _)) ⟨base, some ⟨g4, 0, none⟩, p4, f⟩ x4.heap.size 1 (by rfl) hk5 (by unfold maxLen; omega) (by omega) (Nat.le_trans (Nat.le_refl _) (cur_step1 HX4.out hq5).size) ?_
            intro g6 p6 x6 ha
            have HX6 := Lib.hid (show Below w3.heap.size w3 x6 from (cur_step1 HX4.out hq5).grown ha.grown (cur_step1 HX4.out hq5).size (own_base (own_below HO24.out hq5 (Nat.le_refl _))))
            have HO6 := Lib.hid (show OwnL verE 2 96 w3.heap.size x6 (.slice (some ⟨g6, 0, none⟩) (vs.length + 1) p6) (vs ++ [⟨base, some ⟨g4, 0, none⟩, p4, f⟩]) from ha.one rfl)
            have HF6 := Lib.hid (show OwnL entE 21 39 x2.heap.size x6 (.slice (some ⟨g4, 0, none⟩) f.length p4) f from own_grown (own_below HO4.out hq5 (Nat.le_refl _)) ha.grown (fun b hb e => by
              have h1 := (own_range HO4.out b hb).1
              have h2 := (own_range HO2.out b e.symm).2
              omega))
            clear ha hk5 hq5
            have HBX := Lib.hid (cur_step1 HB3.out HX6.out)
            have HZ6 := Lib.hid (HZU.out.to HX6.out)
            have HA6 := Lib.hid (HAU.out.to HX6.out)
            clear HO1 HX1 HO2 HX2 HO3 HX3 HO23 HQ3 HX4 HO24 HKU HZU
            go_upto_region 18 with (fail)
            refine wp_region_lit ?_
            (refine wpList_step (fun K hK => ?_); go_simp; refine hK _ _ ?_; clear hK K)
            (refine wpList_step (fun K hK => ?_); go_simp; refine hK _ _ ?_; clear hK K)
            (refine wpList_step (fun K hK => ?_); go_simp; refine hK _ _ ?_; clear hK K)
            (refine wpList_step (fun K hK => ?_); go_simp; refine hK _ _ ?_; clear hK K)
            (refine wpList_step (fun K hK => ?_); go_simp; refine hK _ _ ?_; clear hK K)
            refine wpList_storeC rfl _ _ 60 rfl (w.heap.size + 1) 60 [.slice none 0 0] ([.slice (some ⟨g6, 0, none⟩) (vs.length + 1) p6] : List Value).toArray arR_info (by rfl) (by rfl) HZ6.out (by rfl) (by simp [Value.oneCell']) ?_
            have HZ7 := Lib.hid (blk_row HZ6.out #[.slice (some ⟨g6, 0, none⟩) (vs.length + 1) p6])
            have hne6 : ∀ b, w3.heap.size ≤ b → b ≠ w.heap.size + 1 := fun b hb => by have := HB3.out.size; have := HZL.out; omega
            have HF7 := Lib.hid (Far.row (w := x6) (w.heap.size + 1) #[.slice (some ⟨g6, 0, none⟩) (vs.length + 1) p6])
            have HB7 := Lib.hid (row_below HBX.out (Nat.le_succ _) #[.slice (some ⟨g6, 0, none⟩) (vs.length + 1) p6])
            generalize x6.setRow (w.heap.size + 1) #[.slice (some ⟨g6, 0, none⟩) (vs.length + 1) p6] = x7 at HZ7 HF7 HB7 ⊢
            go_wp2_with (fail)
            refine ret_cell4 (g := w.heap.size + 1) (xs := [.slice (some ⟨g6, 0, none⟩) (vs.length + 1) p6]) rfl rfl rfl rfl rfl HZ7.out Try.underlying60 rfl arR_info rfl ?_
            have hn7 : ∀ b, b ∈ [w.heap.size + 1] → b = w.heap.size + 1 := fun b hb => by simpa using hb
            refine HGOOD.out HE.out x7 (some ⟨g6, 0, none⟩) p6 (.slice (some ⟨w2.heap.size, 0, none⟩) 0 0) (some ⟨g4, 0, none⟩) p4 ?s1 (by
              rw [HCF2.out.2]
              have h1 := own_below HCO.out HX6.out (Nat.le_refl _)
              exact own_mono (own_far h1 HF7.out (fun b hb hx => by have h2 := (own_range HCO.out b hb).1; have h3 := HZL2.out; have h4 := hn7 b hx; omega)) (by have := HZL2.out; omega)) HB7.out ?s3 ?s4
            case s1 =>
              rw [HCF2.out.1]
              refine ⟨?_, fun v hv => ?_⟩
              · obtain ⟨Aq, cq, eq, hrq, _⟩ := OwnL.rd verE_len HO6.out
                injection eq with e1 _ _
                subst e1
                exact rd_far hrq HF7.out (fun b o e hx => by
                  have h1 : g6 = b := by injection e with e; injection e
                  have h2 := (own_range HO6.out g6 rfl).1
                  exact hne6 b (by omega) (hn7 b hx))
              · rcases List.mem_append.1 hv with hv | hv
                · have h0 := (HA.out.rd v hv).below HB7.out
                  exact h0.more HB7.out.size
                · simp at hv
                  subst hv
                  obtain ⟨Aq, cq, eq, hrq, _⟩ := OwnL.rd entE_len HF6.out
                  injection eq with e1 _ _
                  subst e1
                  exact rd_far hrq HF7.out (fun b o e hx => by
                    have h1 : g4 = b := by injection e with e; injection e
                    have h2 := (own_range HF6.out g4 rfl).1
                    have h3 := HX2S.out
                    exact hne6 b (by omega) (hn7 b hx))
            case s3 =>
              intro b o e
              have h1 : g6 = b := by injection e with e; injection e
              have h2 := own_range HO6.out g6 rfl
              have h4 := HF7.out.size
              have := HB3.out.size
              omega
            case s4 =>
              intro b o e
              have h1 : g4 = b := by injection e with e; injection e
              have h2 := own_range HF6.out g4 rfl
              have h3 := HX2S.out
              have h4 := HF7.out.size
              have := HB3.out.size
              omega
          · have e0 : (base == 0) = false := by simpa using hb0
            clear hb0 hrng
            have HCF2 := Lib.hid (show comF vs base f = f ∧ comC vs base f = [] by unfold comF comC; rw [if_pos hbe, if_pos hbe]; exact ⟨rfl, rfl⟩)
            have hbn : (base != (vs.length : Int)) = false := by simpa using hbe
            have HBE := Lib.hid hbe
            clear hbe
            obtain ⟨w3, hw3⟩ : ∃ y, w2.alloc (.cells #[] 42) = y := ⟨_, rfl⟩
            have hb3 : Below w2.heap.size w2 w3 := by rw [← hw3]; exact cur_new _ _
            have HCO := Lib.hid (show OwnL inE 1 42 w2.heap.size w3 (.slice (some ⟨w2.heap.size, 0, none⟩) ([] : List Int).length 0) [] by rw [← hw3]; exact World.ownsRow_made w2 #[] 0 (Nat.le_refl _) (Nat.zero_le _) (by simp))
            have HB3 := Lib.hid (cur_step1 HB2.out hb3)
            have HKU := Lib.hid (HK2.out.to hb3)
            have HZU := Lib.hid (HZ2.out.to hb3)
            have HAU := Lib.hid (HA.out.to HB3.out)
            have HRF := Lib.hid (HRD.out.to HB3.out)
            have HFLN := Lib.hid (show f.length ≤ 400 by omega)
            have HZL := Lib.hid (show w.heap.size + 1 < w3.heap.size from HZU.out.lt)
            have HZL2 := Lib.hid (show w.heap.size + 1 < w2.heap.size from HZ2.out.lt)
            clear hb3 HK2 HZ2 HB2
            go_upto_region 10 with (fail)
            try rw [hw3]
            clear hw3

            go_upto_region 17 with (fail)
            refine wp_region_lit ?_
            obtain ⟨x1, hx1⟩ : ∃ y, w3.alloc (.cells #[] 96) = y := ⟨_, rfl⟩
            have hq1 : Below w3.heap.size w3 x1 := by rw [← hx1]; exact cur_new _ _
            have HO1 := Lib.hid (show OwnL verE 2 96 w3.heap.size x1 (.slice (some ⟨w3.heap.size, 0, none⟩) ([] : List Vr).length 0) [] by rw [← hx1]; exact World.ownsRow_made w3 #[] 0 (Nat.le_refl _) (Nat.zero_le _) (by simp))
            have HX1 := Lib.hid hq1
            have HK9 := Lib.hid (HKU.out.to hq1)
            have k0 : x1.cell? ⟨w.heap.size, 0, none⟩ = some (.slice V vs.length c) := HK9.out.cell 0
            clear hq1
            (refine wpList_step (fun K hK => ?_); go_simp; refine hK _ _ ?_; clear hK K)
            try rw [hx1]
            clear hx1
            (refine wpList_step (fun K hK => ?_); go_simp; refine hK _ _ ?_; clear hK K)
            (refine wpList_step (fun K hK => ?_); go_simp; refine hK _ _ ?_; clear hK K)
            refine wpList_appL Try.verElemR x1 rfl (.tmp 78) (.tmp 80) rfl w3.heap.size w3.heap.size 0 [] (by rfl) HO1.out V c vs (by rfl) (HAU.out.row.to HX1.out) (by unfold maxLen; simp; omega) (by simp; omega) HX1.out.size ?_
            intro g2 p2 x2 ho2 hg2 hat2
            have HO2 := Lib.hid (show OwnL verE 2 96 w3.heap.size x2 (.slice (some ⟨g2, 0, none⟩) vs.length p2) vs from ho2)
            have HX2 := Lib.hid (HX1.out.grown hg2 HX1.out.size (fun b hb => by have hb' : w3.heap.size = b := Option.some.inj (show some w3.heap.size = some b from hb); omega))
            have HX2S := Lib.hid HX2.out.size
            clear ho2 hg2 hat2 k0 HK9
            obtain ⟨x3, hx3⟩ : ∃ y, x2.alloc (.cells #[] 39) = y := ⟨_, rfl⟩
            have hq3 : Below x2.heap.size x2 x3 := by rw [← hx3]; exact cur_new _ _
            have HO3 := Lib.hid (show OwnL entE 21 39 x2.heap.size x3 (.slice (some ⟨x2.heap.size, 0, none⟩) ([] : List Ent).length 0) [] by rw [← hx3]; exact World.ownsRow_made x2 #[] 0 (Nat.le_refl _) (Nat.zero_le _) (by simp))
            have HX3 := Lib.hid (cur_step1 HX2.out hq3)
            have HO23 := Lib.hid (own_below HO2.out hq3 (Nat.le_refl _))
            have HQ3 := Lib.hid hq3
            clear hq3
            (refine wpList_step (fun K hK => ?_); go_simp; refine hK _ _ ?_; clear hK K)
            (refine wpList_step (fun K hK => ?_); go_simp; refine hK _ _ ?_; clear hK K)
            try rw [hx3]
            clear hx3
            (refine wpList_step (fun K hK => ?_); go_simp; refine hK _ _ ?_; clear hK K)
            refine wpList_appL Try.enElem x3 rfl (.tmp 83) (.tmp 84) rfl x2.heap.size x2.heap.size 0 [] (by rfl) HO3.out A cf f (by rfl) (HRF.out.to HX3.out) (by unfold maxLen; have := HFLN.out; simp; omega) (by have := HFLN.out; simp; omega) HQ3.out.size ?_
            intro g4 p4 x4 ho4 hg4 hat4
            have HO4 := Lib.hid (show OwnL entE 21 39 x2.heap.size x4 (.slice (some ⟨g4, 0, none⟩) f.length p4) f from ho4)
            have HX4 := Lib.hid (HX3.out.grown hg4 HX3.out.size (fun b hb => by have hb' : x2.heap.size = b := Option.some.inj (show some x2.heap.size = some b from hb); have := HX2.out.size; omega))
            have HO24 := Lib.hid (own_grown HO23.out hg4 (fun b hb e => by have hb' : x2.heap.size = b := Option.some.inj e.symm; have := (own_range HO2.out b hb).2; omega))
            clear ho4 hg4 hat4
            (refine wpList_step (fun K hK => ?_); go_simp; refine hK _ _ ?_; clear hK K)
            refine wpList_buildE Try.verElemR rfl 1 _ rfl [⟨base, some ⟨g4, 0, none⟩, p4, f⟩] rfl (by decide) (by decide) (by rfl) ?_
            rw [show [(⟨base, some ⟨g4, 0, none⟩, p4, f⟩ : Vr)].flatMap verE = verE ⟨base, some ⟨g4, 0, none⟩, p4, f⟩ from List.append_nil _]
            obtain ⟨x5, hx5⟩ : ∃ y, x4.alloc (.cells (verE ⟨base, some ⟨g4, 0, none⟩, p4, f⟩).toArray 96) = y := ⟨_, rfl⟩
            have hq5 : Below x4.heap.size x4 x5 := by rw [← hx5]; exact cur_new _ _
            have hk5 : x5.heap[x4.heap.size]? = some (.cells (verE ⟨base, some ⟨g4, 0, none⟩, p4, f⟩).toArray 96 (0, 0)) := by rw [← hx5]; exact heap_alloc_new _ _
            rw [hx5]
            clear hx5
            refine wpList_app1 Try.verElemR x5 rfl (.tmp 81) (.tmp 87) rfl w3.heap.size (some ⟨g2, 0, none⟩) p2 vs (by rfl) (own_below HO24.out hq5 (Nat.le_refl _)) ⟨base, some ⟨g4, 0, none⟩, p4, f⟩ x4.heap.size 1 (by rfl) hk5 (by unfold maxLen; omega) (by omega) (Nat.le_trans (Nat.le_refl _) (cur_step1 HX4.out hq5).size) ?_
            intro g6 p6 x6 ha
            have HX6 := Lib.hid (show Below w3.heap.size w3 x6 from (cur_step1 HX4.out hq5).grown ha.grown (cur_step1 HX4.out hq5).size (own_base (own_below HO24.out hq5 (Nat.le_refl _))))
            have HO6 := Lib.hid (show OwnL verE 2 96 w3.heap.size x6 (.slice (some ⟨g6, 0, none⟩) (vs.length + 1) p6) (vs ++ [⟨base, some ⟨g4, 0, none⟩, p4, f⟩]) from ha.one rfl)
            have HF6 := Lib.hid (show OwnL entE 21 39 x2.heap.size x6 (.slice (some ⟨g4, 0, none⟩) f.length p4) f from own_grown (own_below HO4.out hq5 (Nat.le_refl _)) ha.grown (fun b hb e => by
              have h1 := (own_range HO4.out b hb).1
              have h2 := (own_range HO2.out b e.symm).2
              omega))
            clear ha hk5 hq5
            have HBX := Lib.hid (cur_step1 HB3.out HX6.out)
            have HZ6 := Lib.hid (HZU.out.to HX6.out)
            have HA6 := Lib.hid (HAU.out.to HX6.out)
            clear HO1 HX1 HO2 HX2 HO3 HX3 HO23 HQ3 HX4 HO24 HKU HZU
            go_upto_region 18 with (fail)
            refine wp_region_lit ?_
            (refine wpList_step (fun K hK => ?_); go_simp; refine hK _ _ ?_; clear hK K)
            (refine wpList_step (fun K hK => ?_); go_simp; refine hK _ _ ?_; clear hK K)
            (refine wpList_step (fun K hK => ?_); go_simp; refine hK _ _ ?_; clear hK K)
            (refine wpList_step (fun K hK => ?_); go_simp; refine hK _ _ ?_; clear hK K)
            (refine wpList_step (fun K hK => ?_); go_simp; refine hK _ _ ?_; clear hK K)
            refine wpList_storeC rfl _ _ 60 rfl (w.heap.size + 1) 60 [.slice none 0 0] ([.slice (some ⟨g6, 0, none⟩) (vs.length + 1) p6] : List Value).toArray arR_info (by rfl) (by rfl) HZ6.out (by rfl) (by simp [Value.oneCell']) ?_
            have HZ7 := Lib.hid (blk_row HZ6.out #[.slice (some ⟨g6, 0, none⟩) (vs.length + 1) p6])
            have hne6 : ∀ b, w3.heap.size ≤ b → b ≠ w.heap.size + 1 := fun b hb => by have := HB3.out.size; have := HZL.out; omega
            have HF7 := Lib.hid (Far.row (w := x6) (w.heap.size + 1) #[.slice (some ⟨g6, 0, none⟩) (vs.length + 1) p6])
            have HB7 := Lib.hid (row_below HBX.out (Nat.le_succ _) #[.slice (some ⟨g6, 0, none⟩) (vs.length + 1) p6])
            generalize x6.setRow (w.heap.size + 1) #[.slice (some ⟨g6, 0, none⟩) (vs.length + 1) p6] = x7 at HZ7 HF7 HB7 ⊢
            go_wp2_with (fail)
            refine ret_cell4 (g := w.heap.size + 1) (xs := [.slice (some ⟨g6, 0, none⟩) (vs.length + 1) p6]) rfl rfl rfl rfl rfl HZ7.out Try.underlying60 rfl arR_info rfl ?_
            have hn7 : ∀ b, b ∈ [w.heap.size + 1] → b = w.heap.size + 1 := fun b hb => by simpa using hb
            refine HGOOD.out HE.out x7 (some ⟨g6, 0, none⟩) p6 (.slice (some ⟨w2.heap.size, 0, none⟩) 0 0) (some ⟨g4, 0, none⟩) p4 ?s1 (by
              rw [HCF2.out.2]
              have h1 := own_below HCO.out HX6.out (Nat.le_refl _)
              exact own_mono (own_far h1 HF7.out (fun b hb hx => by have h2 := (own_range HCO.out b hb).1; have h3 := HZL2.out; have h4 := hn7 b hx; omega)) (by have := HZL2.out; omega)) HB7.out ?s3 ?s4
            case s1 =>
              rw [HCF2.out.1]
              refine ⟨?_, fun v hv => ?_⟩
              · obtain ⟨Aq, cq, eq, hrq, _⟩ := OwnL.rd verE_len HO6.out
                injection eq with e1 _ _
                subst e1
                exact rd_far hrq HF7.out (fun b o e hx => by
                  have h1 : g6 = b := by injection e with e; injection e
                  have h2 := (own_range HO6.out g6 rfl).1
                  exact hne6 b (by omega) (hn7 b hx))
              · rcases List.mem_append.1 hv with hv | hv
                · have h0 := (HA.out.rd v hv).below HB7.out
                  exact h0.more HB7.out.size
                · simp at hv
                  subst hv
                  obtain ⟨Aq, cq, eq, hrq, _⟩ := OwnL.rd entE_len HF6.out
                  injection eq with e1 _ _
                  subst e1
                  exact rd_far hrq HF7.out (fun b o e hx => by
                    have h1 : g4 = b := by injection e with e; injection e
                    have h2 := (own_range HF6.out g4 rfl).1
                    have h3 := HX2S.out
                    exact hne6 b (by omega) (hn7 b hx))
            case s3 =>
              intro b o e
              have h1 : g6 = b := by injection e with e; injection e
              have h2 := own_range HO6.out g6 rfl
              have h4 := HF7.out.size
              have := HB3.out.size
              omega
            case s4 =>
              intro b o e
              have h1 : g4 = b := by injection e with e; injection e
              have h2 := own_range HF6.out g4 rfl
              have h3 := HX2S.out
              have h4 := HF7.out.size
              have := HB3.out.size
              omega
        · skip
          have hb0 : base ≠ 0 := fun h => by have := hrng.2.2 h; omega
          have e0 : (base == 0) = false := by simpa using hb0
          have hbn : (base != (vs.length : Int)) = true := by simpa using hbe
          have HCF2 := Lib.hid (show comF vs base f = mOut (fileV vs base) (fileV vs vs.length) f (idsU (fileV vs base) (fileV vs vs.length) f) ∧ comC vs base f = mCl (fileV vs base) (fileV vs vs.length) f (idsU (fileV vs base) (fileV vs vs.length) f) by unfold comF comC; rw [if_neg hbe, if_neg hbe]; exact ⟨rfl, rfl⟩)
          have hhb : hasB vs.length base = true := by unfold hasB; simp; omega
          have hhn : hasB vs.length (vs.length : Int) = true := by unfold hasB; simp; omega
          have HCB := Lib.hid (show chkV vs.length base = 0 by unfold chkV; rw [if_pos hhb])
          have HCN := Lib.hid (show chkV vs.length (vs.length : Int) = 0 by unfold chkV; rw [if_pos hhn])
          obtain ⟨vb, jb, hvb, hj1, hfb⟩ := fileV_at hhb
          obtain ⟨vh, jh, hvh, hj2, hfh⟩ := fileV_at hhn
          have HBG := Lib.hid (show GoodA (fileV vs base) ∧ (∀ x ∈ fileV vs base, x.sc.size ≤ 20) by rw [hfb]; exact HLS.out vb (List.mem_of_getElem? hvb))
          have HHG := Lib.hid (show GoodA (fileV vs vs.length) ∧ (∀ x ∈ fileV vs vs.length, x.sc.size ≤ 20) by rw [hfh]; exact HLS.out vh (List.mem_of_getElem? hvh))
          have HLN := Lib.hid (HLEN.out base hhb)
          clear hvb hvh hfb hfh hhb hhn hrng hb0 hbe hj1 hj2
          obtain ⟨w3, hw3⟩ : ∃ y, w2.alloc (.cells #[] 42) = y := ⟨_, rfl⟩
          have hb3 : Below w2.heap.size w2 w3 := by rw [← hw3]; exact cur_new _ _
          have HB3 := Lib.hid (cur_step1 HB2.out hb3)
          have HK3 := Lib.hid (HK2.out.to hb3)
          have HZ3 := Lib.hid (HZ2.out.to hb3)
          clear hb3 HK2 HZ2 HB2
          go_upto_region 11 with (fail)
          try rw [hw3]
          clear hw3
          refine wp_region_lit ?_
          refine wpList_loadC rfl _ 60 rfl w.heap.size 60 [.slice V vs.length c] _ rfl (by rfl) (by rfl) (by rfl) HK3.out ?_
          (refine wpList_step (fun K hK => ?_); go_simp; refine hK _ _ ?_; clear hK K)
          go_wp2_with (fail)
          refine (get_r V c vs base w3 (by omega) (HA.out.to HB3.out)).mono ?_
          rintro e w4 ⟨⟨A4, c4, rfl, hr4⟩, hb4⟩
          have HR4 := Lib.hid hr4
          have HB4 := Lib.hid (cur_step1 HB3.out hb4)
          have HK4 := Lib.hid (HK3.out.to hb4)
          have HZ4 := Lib.hid (HZ3.out.to hb4)
          clear hr4 hb4 HK3 HZ3
          go_upto_region 12 with (fail)
          refine wp_region_lit ?_
          refine wpList_loadC rfl _ 60 rfl w.heap.size 60 [.slice V vs.length c] _ rfl (by rfl) (by rfl) (by rfl) HK4.out ?_
          (refine wpList_step (fun K hK => ?_); go_simp; refine hK _ _ ?_; clear hK K)
          go_wp2_with (fail)
          refine (get_r V c vs (vs.length : Int) w4 (by omega) (HA.out.to HB4.out)).mono ?_
          rintro e w5 ⟨⟨A5, c5, rfl, hr5⟩, hb5⟩
          have HR5 := Lib.hid hr5
          have HR45 := Lib.hid (HR4.out.to hb5)
          have HB5 := Lib.hid (cur_step1 HB4.out hb5)
          have HK5 := Lib.hid (HK4.out.to hb5)
          have HZ5 := Lib.hid (HZ4.out.to hb5)
          clear hr5 hb5 HK4 HZ4 HR4
          obtain ⟨bl, hbl⟩ : ∃ y, fileV vs base = y := ⟨_, rfl⟩
          obtain ⟨hl, hhl⟩ : ∃ y, fileV vs (vs.length : Int) = y := ⟨_, rfl⟩
          rw [hbl] at HCF2 HBG HLN HR45 ⊢
          rw [hhl] at HCF2 HHG HLN HR5 ⊢
          clear hbl hhl
          go_wp2_with (fail)
          obtain ⟨fl, hfl⟩ : ∃ fl : List Fl, [⟨A4, c4, bl⟩, ⟨A5, c5, hl⟩, ⟨A, cf, f⟩] = fl := ⟨_, rfl⟩
          have HFL := Lib.hid hfl.symm
          have HFN := Lib.hid (show (flI fl).length ≤ 400 by rw [← hfl]; simp [flI]; have := HLN.out; omega)
          have HFS := Lib.hid (show ∀ x ∈ fl, ∀ y ∈ x.l, y.sc.size ≤ 9223372036854775807 by
            intro x hx y hy
            rw [← hfl] at hx
            simp only [List.mem_cons, List.not_mem_nil, or_false] at hx
            rcases hx with rfl | rfl | rfl
            · exact Nat.le_trans (HBG.out.2 y hy) (by decide)
            · exact Nat.le_trans (HHG.out.2 y hy) (by decide)
            · exact Nat.le_trans (HSC.out y hy) (by decide))
          have HFR := Lib.hid (show ∀ x ∈ fl, Rd entE 21 w5 w5.heap.size x.a x.l by
            intro x hx
            rw [← hfl] at hx
            simp only [List.mem_cons, List.not_mem_nil, or_false] at hx
            rcases hx with rfl | rfl | rfl
            · exact HR45.out
            · exact HR5.out
            · exact HRD.out.to HB5.out)
          have HFZ := Lib.hid (show flE fl = 0 from flE_zero (fun x hx => by
            rw [← hfl] at hx
            simp only [List.mem_cons, List.not_mem_nil, or_false] at hx
            have hln := HLN.out
            rcases hx with rfl | rfl | rfl
            · exact HBG.out.1.chk (by show bl.length ≤ 4000; omega)
            · exact HHG.out.1.chk (by show hl.length ≤ 4000; omega)
            · exact HCF.out))
          clear hfl
          refine merge_r fl A4 A5 A c4 c5 cf bl hl f HFL.out w5 HFN.out HFS.out HFR.out _ (fun h => absurd HFZ.out h) ?_
          intro _ v1 v2 w6 ho1 ho2 hb6
          rw [← HCF2.out.1] at ho1
          rw [← HCF2.out.2] at ho2
          have HFLN := Lib.hid (show (comF vs base f).length ≤ 400 by
            rw [HCF2.out.1]
            have h1 := mOut_len bl hl f (idsU bl hl f)
            have h2 := idsU_len bl hl f
            have h3 := HLN.out
            omega)
          obtain ⟨F, hF⟩ : ∃ F, comF vs base f = F := ⟨_, rfl⟩
          rw [hF] at ho1 HFLN
          have HFE := Lib.hid hF
          obtain ⟨A6, c6, rfl, hr6, hxx⟩ := OwnL.rd entE_len ho1
          have HRF := Lib.hid hr6
          have HCO := Lib.hid ho2
          have HB6 := Lib.hid (cur_step1 HB5.out hb6)
          have HKU := Lib.hid (HK5.out.to hb6)
          have HZU := Lib.hid (HZ5.out.to hb6)
          have HAU := Lib.hid (HA.out.to HB6.out)
          have HZL := Lib.hid (show w.heap.size + 1 < w6.heap.size from HZU.out.lt)
          have HZL2 := Lib.hid (show w.heap.size + 1 < w5.heap.size from HZ5.out.lt)
          clear hxx hr6 ho1 ho2 hb6 hF HK5 HZ5

          go_upto_region 17 with (fail)
          refine wp_region_lit ?_
          obtain ⟨x1, hx1⟩ : ∃ y, w6.alloc (.cells #[] 96) = y := ⟨_, rfl⟩
          have hq1 : Below w6.heap.size w6 x1 := by rw [← hx1]; exact cur_new _ _
          have HO1 := Lib.hid (show OwnL verE 2 96 w6.heap.size x1 (.slice (some ⟨w6.heap.size, 0, none⟩) ([] : List Vr).length 0) [] by rw [← hx1]; exact World.ownsRow_made w6 #[] 0 (Nat.le_refl _) (Nat.zero_le _) (by simp))
          have HX1 := Lib.hid hq1
          have HK9 := Lib.hid (HKU.out.to hq1)
          have k0 : x1.cell? ⟨w.heap.size, 0, none⟩ = some (.slice V vs.length c) := HK9.out.cell 0
          clear hq1
          (refine wpList_step (fun K hK => ?_); go_simp; refine hK _ _ ?_; clear hK K)
          try rw [hx1]
          clear hx1
          (refine wpList_step (fun K hK => ?_); go_simp; refine hK _ _ ?_; clear hK K)
          (refine wpList_step (fun K hK => ?_); go_simp; refine hK _ _ ?_; clear hK K)
          refine wpList_appL Try.verElemR x1 rfl (.tmp 78) (.tmp 80) rfl w6.heap.size w6.heap.size 0 [] (by rfl) HO1.out V c vs (by rfl) (HAU.out.row.to HX1.out) (by unfold maxLen; simp; omega) (by simp; omega) HX1.out.size ?_
          intro g2 p2 x2 ho2 hg2 hat2
          have HO2 := Lib.hid (show OwnL verE 2 96 w6.heap.size x2 (.slice (some ⟨g2, 0, none⟩) vs.length p2) vs from ho2)
          have HX2 := Lib.hid (HX1.out.grown hg2 HX1.out.size (fun b hb => by have hb' : w6.heap.size = b := Option.some.inj (show some w6.heap.size = some b from hb); omega))
          have HX2S := Lib.hid HX2.out.size
          clear ho2 hg2 hat2 k0 HK9
          obtain ⟨x3, hx3⟩ : ∃ y, x2.alloc (.cells #[] 39) = y := ⟨_, rfl⟩
          have hq3 : Below x2.heap.size x2 x3 := by rw [← hx3]; exact cur_new _ _
          have HO3 := Lib.hid (show OwnL entE 21 39 x2.heap.size x3 (.slice (some ⟨x2.heap.size, 0, none⟩) ([] : List Ent).length 0) [] by rw [← hx3]; exact World.ownsRow_made x2 #[] 0 (Nat.le_refl _) (Nat.zero_le _) (by simp))
          have HX3 := Lib.hid (cur_step1 HX2.out hq3)
          have HO23 := Lib.hid (own_below HO2.out hq3 (Nat.le_refl _))
          have HQ3 := Lib.hid hq3
          clear hq3
          (refine wpList_step (fun K hK => ?_); go_simp; refine hK _ _ ?_; clear hK K)
          (refine wpList_step (fun K hK => ?_); go_simp; refine hK _ _ ?_; clear hK K)
          try rw [hx3]
          clear hx3
          (refine wpList_step (fun K hK => ?_); go_simp; refine hK _ _ ?_; clear hK K)
          refine wpList_appL Try.enElem x3 rfl (.tmp 83) (.tmp 84) rfl x2.heap.size x2.heap.size 0 [] (by rfl) HO3.out A6 c6 F (by rfl) (HRF.out.to HX3.out) (by unfold maxLen; have := HFLN.out; simp; omega) (by have := HFLN.out; simp; omega) HQ3.out.size ?_
          intro g4 p4 x4 ho4 hg4 hat4
          have HO4 := Lib.hid (show OwnL entE 21 39 x2.heap.size x4 (.slice (some ⟨g4, 0, none⟩) F.length p4) F from ho4)
          have HX4 := Lib.hid (HX3.out.grown hg4 HX3.out.size (fun b hb => by have hb' : x2.heap.size = b := Option.some.inj (show some x2.heap.size = some b from hb); have := HX2.out.size; omega))
          have HO24 := Lib.hid (own_grown HO23.out hg4 (fun b hb e => by have hb' : x2.heap.size = b := Option.some.inj e.symm; have := (own_range HO2.out b hb).2; omega))
          clear ho4 hg4 hat4
          (refine wpList_step (fun K hK => ?_); go_simp; refine hK _ _ ?_; clear hK K)
          refine wpList_buildE Try.verElemR rfl 1 _ rfl [⟨base, some ⟨g4, 0, none⟩, p4, F⟩] rfl (by decide) (by decide) (by rfl) ?_
          rw [show [(⟨base, some ⟨g4, 0, none⟩, p4, F⟩ : Vr)].flatMap verE = verE ⟨base, some ⟨g4, 0, none⟩, p4, F⟩ from List.append_nil _]
          obtain ⟨x5, hx5⟩ : ∃ y, x4.alloc (.cells (verE ⟨base, some ⟨g4, 0, none⟩, p4, F⟩).toArray 96) = y := ⟨_, rfl⟩
          have hq5 : Below x4.heap.size x4 x5 := by rw [← hx5]; exact cur_new _ _
          have hk5 : x5.heap[x4.heap.size]? = some (.cells (verE ⟨base, some ⟨g4, 0, none⟩, p4, F⟩).toArray 96 (0, 0)) := by rw [← hx5]; exact heap_alloc_new _ _
          rw [hx5]
          clear hx5
          refine wpList_app1 Try.verElemR x5 rfl (.tmp 81) (.tmp 87) rfl w6.heap.size (some ⟨g2, 0, none⟩) p2 vs (by rfl) (own_below HO24.out hq5 (Nat.le_refl _)) ⟨base, some ⟨g4, 0, none⟩, p4, F⟩ x4.heap.size 1 (by rfl) hk5 (by unfold maxLen; omega) (by omega) (Nat.le_trans (Nat.le_refl _) (cur_step1 HX4.out hq5).size) ?_
          intro g6 p6 x6 ha
          have HX6 := Lib.hid (show Below w6.heap.size w6 x6 from (cur_step1 HX4.out hq5).grown ha.grown (cur_step1 HX4.out hq5).size (own_base (own_below HO24.out hq5 (Nat.le_refl _))))
          have HO6 := Lib.hid (show OwnL verE 2 96 w6.heap.size x6 (.slice (some ⟨g6, 0, none⟩) (vs.length + 1) p6) (vs ++ [⟨base, some ⟨g4, 0, none⟩, p4, F⟩]) from ha.one rfl)
          have HF6 := Lib.hid (show OwnL entE 21 39 x2.heap.size x6 (.slice (some ⟨g4, 0, none⟩) F.length p4) F from own_grown (own_below HO4.out hq5 (Nat.le_refl _)) ha.grown (fun b hb e => by
            have h1 := (own_range HO4.out b hb).1
            have h2 := (own_range HO2.out b e.symm).2
            omega))
          clear ha hk5 hq5
          have HBX := Lib.hid (cur_step1 HB6.out HX6.out)
          have HZ6 := Lib.hid (HZU.out.to HX6.out)
          have HA6 := Lib.hid (HAU.out.to HX6.out)
          clear HO1 HX1 HO2 HX2 HO3 HX3 HO23 HQ3 HX4 HO24 HKU HZU
          go_upto_region 18 with (fail)
          refine wp_region_lit ?_
          (refine wpList_step (fun K hK => ?_); go_simp; refine hK _ _ ?_; clear hK K)
          (refine wpList_step (fun K hK => ?_); go_simp; refine hK _ _ ?_; clear hK K)
          (refine wpList_step (fun K hK => ?_); go_simp; refine hK _ _ ?_; clear hK K)
          (refine wpList_step (fun K hK => ?_); go_simp; refine hK _ _ ?_; clear hK K)
          (refine wpList_step (fun K hK => ?_); go_simp; refine hK _ _ ?_; clear hK K)
          refine wpList_storeC rfl _ _ 60 rfl (w.heap.size + 1) 60 [.slice none 0 0] ([.slice (some ⟨g6, 0, none⟩) (vs.length + 1) p6] : List Value).toArray arR_info (by rfl) (by rfl) HZ6.out (by rfl) (by simp [Value.oneCell']) ?_
          have HZ7 := Lib.hid (blk_row HZ6.out #[.slice (some ⟨g6, 0, none⟩) (vs.length + 1) p6])
          have hne6 : ∀ b, w6.heap.size ≤ b → b ≠ w.heap.size + 1 := fun b hb => by have := HB6.out.size; have := HZL.out; omega
          have HF7 := Lib.hid (Far.row (w := x6) (w.heap.size + 1) #[.slice (some ⟨g6, 0, none⟩) (vs.length + 1) p6])
          have HB7 := Lib.hid (row_below HBX.out (Nat.le_succ _) #[.slice (some ⟨g6, 0, none⟩) (vs.length + 1) p6])
          generalize x6.setRow (w.heap.size + 1) #[.slice (some ⟨g6, 0, none⟩) (vs.length + 1) p6] = x7 at HZ7 HF7 HB7 ⊢
          go_wp2_with (fail)
          refine ret_cell4 (g := w.heap.size + 1) (xs := [.slice (some ⟨g6, 0, none⟩) (vs.length + 1) p6]) rfl rfl rfl rfl rfl HZ7.out Try.underlying60 rfl arR_info rfl ?_
          have hn7 : ∀ b, b ∈ [w.heap.size + 1] → b = w.heap.size + 1 := fun b hb => by simpa using hb
          refine HGOOD.out HE.out x7 (some ⟨g6, 0, none⟩) p6 v2 (some ⟨g4, 0, none⟩) p4 ?s1 (by
            have h1 := own_below HCO.out HX6.out (Nat.le_refl _)
            exact own_mono (own_far h1 HF7.out (fun b hb hx => by have h2 := (own_range HCO.out b hb).1; have h3 := HZL2.out; have h4 := hn7 b hx; omega)) (by have := HZL2.out; omega)) HB7.out ?s3 ?s4
          case s1 =>
            rw [HFE.out]
            refine ⟨?_, fun v hv => ?_⟩
            · obtain ⟨Aq, cq, eq, hrq, _⟩ := OwnL.rd verE_len HO6.out
              injection eq with e1 _ _
              subst e1
              exact rd_far hrq HF7.out (fun b o e hx => by
                have h1 : g6 = b := by injection e with e; injection e
                have h2 := (own_range HO6.out g6 rfl).1
                exact hne6 b (by omega) (hn7 b hx))
            · rcases List.mem_append.1 hv with hv | hv
              · have h0 := (HA.out.rd v hv).below HB7.out
                exact h0.more HB7.out.size
              · simp at hv
                subst hv
                obtain ⟨Aq, cq, eq, hrq, _⟩ := OwnL.rd entE_len HF6.out
                injection eq with e1 _ _
                subst e1
                exact rd_far hrq HF7.out (fun b o e hx => by
                  have h1 : g4 = b := by injection e with e; injection e
                  have h2 := (own_range HF6.out g4 rfl).1
                  have h3 := HX2S.out
                  exact hne6 b (by omega) (hn7 b hx))
          case s3 =>
            intro b o e
            have h1 : g6 = b := by injection e with e; injection e
            have h2 := own_range HO6.out g6 rfl
            have h4 := HF7.out.size
            have := HB6.out.size
            omega
          case s4 =>
            intro b o e
            have h1 : g4 = b := by injection e with e; injection e
            have h2 := own_range HF6.out g4 rfl
            have h3 := HX2S.out
            have h4 := HF7.out.size
            have := HB6.out.size
            omega
  · have HE := Lib.hid (show comE vs.length base f = chkA f by unfold comE; rw [if_pos hc])
    obtain ⟨v, hv⟩ : ∃ v, chkA f = v := ⟨_, rfl⟩
    have gv : (v != 0) = true := by rw [← hv]; simpa using hc
    have HV := Lib.hid (show ce = v by rw [← HCE.out, HE.out, hv])
    have HNZ := Lib.hid (show ce ≠ 0 by rw [HV.out, ← hv]; exact hc)
    rw [hv]
    clear hc hv
    go_upto_region 4 with (fail)
    refine wp_region_lit ?_
    refine wpList_loadC rfl _ 60 rfl w.heap.size 60 [.slice V vs.length c] _ rfl (by rfl) (by rfl) (by rfl) HK2.out ?_
    (refine wpList_step (fun K hK => ?_); go_simp; refine hK _ _ ?_; clear hK K)
    refine wpList_storeC rfl _ _ 60 rfl (w.heap.size + 1) 60 [.slice none 0 0] ([.slice V vs.length c] : List Value).toArray arR_info (by rfl) (by rfl) HZ2.out (by rfl) (by simp [Value.oneCell']) ?_
    have HZ3 := Lib.hid (blk_row HZ2.out #[.slice V vs.length c])
    have HB3 := Lib.hid (row_below HB2.out (Nat.le_succ _) #[.slice V vs.length c])
    generalize w2.setRow (w.heap.size + 1) #[.slice V vs.length c] = w3 at HZ3 HB3 ⊢
    go_wp2_with (fail)
    refine ret_cell4 (g := w.heap.size + 1) (xs := [.slice V vs.length c]) rfl rfl rfl rfl rfl HZ3.out Try.underlying60 rfl arR_info rfl ?_
    have := HBAD.out HNZ.out w3 HB3.out
    rw [HV.out] at this
    exact this
end Go.Proofs.Ytimmlffgokgekaa
