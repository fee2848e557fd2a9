/-
  Chapter 58: Merge of the program.
-/
import Derived.Test.YtimmlffgokgekaaFl58
import Derived.Test.YtimmlffgokgekaaArcU
import Derived.Test.YtimmlffgokgekaaAppL
set_option linter.unusedSimpArgs false
set_option linter.unusedVariables false
namespace Go.Proofs.Ytimmlffgokgekaa
open Go.RowKit
set_option maxRecDepth 100000
set_option maxHeartbeats 40000000
/-- The first loop: the files ahead are accepted, their IDs are listed. -/
def M1R (fl : List Fl) (w : World) (v iv : Value) (wr : World) : Prop :=
  ∃ (k : Nat) (A : Option Addr) (c : Nat), k ≤ fl.length ∧ iv = .int .i64 k ∧ v = .slice A (flI (fl.take k)).length c ∧ OwnL inE 1 2 (w.heap.size + 1) wr v (flI (fl.take k)) ∧ (∀ f ∈ fl.take k, chkA f.l = 0) ∧
    Below w.heap.size w wr ∧ Blk wr w.heap.size 22 (fl.map flV)
def M2R (l : List Ent) (pre : List Int) (w w2 : World) (v iv : Value) (wr : World) : Prop :=
  ∃ (k : Nat) (A : Option Addr) (c : Nat), k ≤ l.length ∧ iv = .int .i64 k ∧ v = .slice A (pre ++ (l.take k).map Ent.id).length c ∧ OwnL inE 1 2 (w.heap.size + 1) wr v (pre ++ (l.take k).map Ent.id) ∧ Below (w.heap.size + 1) w2 wr ∧ w.heap.size + 1 ≤ w2.heap.size
def M3R (B L R : List Ent) (ids : List Int) (w7 : World) (v18 v19 iv : Value) (wr : World) : Prop :=
  ∃ (k : Nat) (D1 : Option Addr) (d1 : Nat) (D2 : Option Addr) (d2 : Nat), k ≤ ids.length ∧ iv = .int .i64 k ∧ v18 = .slice D1 (mOut B L R (ids.take k)).length d1 ∧ v19 = .slice D2 (mCl B L R (ids.take k)).length d2 ∧
    OwnL entE 21 39 w7.heap.size wr v18 (mOut B L R (ids.take k)) ∧ OwnL inE 1 42 w7.heap.size wr v19 (mCl B L R (ids.take k)) ∧ (∀ b, v19.ownBlock = some b → v18.ownBlock ≠ some b) ∧ Below w7.heap.size w7 wr
theorem EntM.row {w : World} {b n g : Nat} {f : Int → Ent} (h : EntM w b n f) (hne : b ≠ g) (cs : Array Value) : EntM (w.setRow g cs) b n f := by
  obtain ⟨D, ⟨es, clock, h1, h2, h3, h4⟩, h5⟩ := h
  exact ⟨D, ⟨es, clock, (heap_row_other w g b cs hne).trans h1, h2, h3, h4⟩, h5⟩
theorem wp_abs {P : Program} {code : Code} {Q : Exit → Act → World → Prop} {a : Act} {w : World} (F : Act → Nat → Nat → Nat → Act) (C : Nat → Nat → Nat → World → Prop)
    (h : code.wp P (fun e a' w' => e = .normal ∧ ∃ b1 b2 b3, a' = F a b1 b2 b3 ∧ C b1 b2 b3 w') a w) (h2 : ∀ b1 b2 b3 w', C b1 b2 b3 w' → Q .normal (F a b1 b2 b3) w') : code.wp P Q a w := by
  refine Code.wp_mono ?_ h
  rintro e a' w' ⟨rfl, b1, b2, b3, rfl, hc⟩
  exact h2 b1 b2 b3 w' hc
/-- Three boxes with three entries, made in whatever order. -/
structure Box3 (w0 : World) (x p q : Ent) (b1 b2 b3 : Nat) (w : World) : Prop where
  below : Below w0.heap.size w0 w
  h1 : Blk w b1 39 (entE x)
  h2 : Blk w b2 39 (entE p)
  h3 : Blk w b3 39 (entE q)
  n1 : w0.heap.size ≤ b1
  n2 : w0.heap.size ≤ b2
  n3 : w0.heap.size ≤ b3
def mrgF (bx bp bq : Nat) (i : Int) (x p q : Ent) (a : Act) (b1 b2 b3 : Nat) : Act :=
  (((((((((((a.put (some 68) (.map (some bx))).put (some 69) (.int .i64 i)).put (some 70) (.agg (entE x).toArray)).put (some 71) (.map (some bp))).put (some 72) (.int .i64 i)).put (some 73) (.agg (entE p).toArray)).put (some 74) (.map (some bq))).put (some 75) (.int .i64 i)).put (some 76) (.agg (entE q).toArray)).put (some 22) (.pointer (some ⟨b1, 0, none⟩))).put (some 23) (.pointer (some ⟨b2, 0, none⟩))).put (some 24) (.pointer (some ⟨b3, 0, none⟩))
theorem wf_id {i : Int} {P Q : Prop} (h : 1 ≤ i ∧ i ≤ 1099511627776 ∧ P ∧ Q) : (Lit.int .i64 i).wf = true := by
  simp [Lit.wf, IntKind.min, IntKind.max, IntKind.bits, IntKind.signed]
  omega
theorem merge_e (fl : List Fl) (A1 A2 A3 : Option Addr) (c1 c2 c3 : Nat) (B L R : List Ent) (hfl : fl = [⟨A1, c1, B⟩, ⟨A2, c2, L⟩, ⟨A3, c3, R⟩]) (w : World) (hlen : (flI fl).length ≤ 400) (hsc : ∀ f ∈ fl, ∀ x ∈ f.l, x.sc.size ≤ 9223372036854775807) (hrd : ∀ f ∈ fl, Rd entE 21 w w.heap.size f.a f.l)
    (RR : Ending → World → Prop) (hbad : flE fl ≠ 0 → ∀ w', Below w.heap.size w w' → RR (.returned (.tuple #[.slice none 0 0, .slice none 0 0, .int .i64 (flE fl)])) w')
    (hgood : flE fl = 0 → ∀ v1 v2 w', OwnL entE 21 39 w.heap.size w' v1 (mOut B L R (idsU B L R)) → OwnL inE 1 42 w.heap.size w' v2 (mCl B L R (idsU B L R)) → Below w.heap.size w w' → RR (.returned (.tuple #[v1, v2, .int .i64 0])) w') :
    Calls Try.prog 10 #[.slice A1 B.length c1, .slice A2 L.length c2, .slice A3 R.length c3] w RR := by
  have hfv : fl.map flV = [.slice A1 B.length c1, .slice A2 L.length c2, .slice A3 R.length c3] := by rw [hfl]; rfl
  have h3 : fl.length = 3 := by rw [hfl]; rfl
  have hll : ∀ f ∈ fl, f.l.length ≤ 400 := by
    intro f hf
    obtain ⟨k, hk⟩ := List.getElem?_of_mem hf
    have := flI_len hlen (k + 1)
    rw [flI_next hk] at this
    simp at this
    omega
  have HFV := Lib.hid hfv
  have HSC := Lib.hid hsc
  have HRD := Lib.hid hrd
  have HLEN := Lib.hid hlen
  have HLL := Lib.hid hll
  have HBAD := Lib.hid hbad
  have HGOOD := Lib.hid hgood
  have H3 := Lib.hid h3
  have HFL := Lib.hid hfl
  clear hfv hsc hrd hlen hll hbad hgood h3 hfl
  go_enter Try.func10, Try.ntmps10
  go_wp2_with (fail)
  go_loopw [9, 31] (M1R fl w) (fun _ i _ => 3 - (intOf i).toNat)
  case atStart => exact ⟨0, _, _, by omega, rfl, rfl, World.ownsRow_nil _ _ _ _, by simp, cur_new _ _, by rw [HFV.out]; exact Blk.new w _ _⟩
  case round =>
    obtain ⟨k, A, c, hk, rfl, rfl, hown, hok, hb, hbk⟩ := hrel
    have HO := Lib.hid hown
    have HB := Lib.hid hb
    have HOK := Lib.hid hok
    have HBK := Lib.hid hbk
    rw [H3.out] at hk
    clear hown hb hok hbk
    by_cases hk3 : k < 3
    · obtain ⟨f, hf⟩ : ∃ f, fl[k]? = some f := ⟨_, List.getElem?_eq_getElem (by rw [H3.out]; exact hk3)⟩
      have hfm := List.mem_of_getElem? hf
      have HSF := Lib.hid (HSC.out f hfm)
      have HRF := Lib.hid (HRD.out f hfm)
      have HFF := Lib.hid hf
      have hlf := HLL.out f hfm
      have hcell : wr.cell? ⟨w.heap.size, k, none⟩ = some (.slice f.a f.l.length f.c) := by rw [HBK.out.cell, List.getElem?_map, hf]; rfl
      clear hf hfm
      go_wp2_with (fail)
      refine (chka_p f.l f.a f.c wr (by omega) HSF.out ((HRF.out.below HB.out).more HB.out.size)).mono ?_
      rintro e1 w2 ⟨rfl, hb2⟩
      have HB2 := Lib.hid (cur_step1 HB.out hb2)
      have HO2 := Lib.hid (own_below HO.out hb2 (Nat.le_refl _))
      have HBK2 := Lib.hid (HBK.out.to hb2)
      clear hb2
      by_cases hc : chkA f.l = 0
      · rw [hc]
        obtain ⟨pre, hpre⟩ : ∃ pre, flI (fl.take k) = pre := ⟨_, rfl⟩
        have HNX := Lib.hid (show flI (fl.take (k + 1)) = pre ++ f.l.map Ent.id by rw [flI_next HFF.out, hpre])
        have HPL := Lib.hid (show pre.length + f.l.length ≤ 400 by have := flI_len HLEN.out (k + 1); rw [HNX.out] at this; simpa using this)
        have HOK2 := Lib.hid (show ∀ g ∈ fl.take (k + 1), chkA g.l = 0 by
          intro g hg
          rw [List.take_add_one, HFF.out] at hg
          rcases List.mem_append.1 hg with hg | hg
          · exact HOK.out g hg
          · simp at hg; subst hg; exact hc)
        rw [hpre] at HO2 ⊢
        clear hc hpre
        go_wp2_with (fail)
        go_loopw [9, 42] (M2R f.l pre w w2) (fun _ i _ => f.l.length - (intOf i).toNat)
        case atStart => exact ⟨0, A, c, by omega, rfl, by simp, by rw [List.take_zero, List.map_nil, List.append_nil]; exact HO2.out, Below.refl _ _, Nat.lt_of_lt_of_le (Blk.lt HBK2.out) (Nat.le_refl _)⟩
        case round =>
          obtain ⟨j, A', c', hj, rfl, rfl, hown, hb, hw2⟩ := hrel
          have HO3 := Lib.hid hown
          have HB3 := Lib.hid hb
          have HW2 := Lib.hid hw2
          clear hown hb hw2
          by_cases hjl : j < f.l.length
          · obtain ⟨x, hx⟩ : ∃ x, f.l[j]? = some x := ⟨_, List.getElem?_eq_getElem hjl⟩
            have HBW := Lib.hid (show Below w.heap.size w wr from HB2.out.trans (HB3.out.mono (by omega)))
            obtain ⟨b2, off2, hfa, hb2l, hc2⟩ := HRF.out j x hx
            rw [hfa]
            have HRA := Lib.hid (show wr.rangeAt b2 (off2 + j * 21) (entE x) from fun i v hv => (HBW.out.cell (p := ⟨b2, off2 + j * 21 + i, none⟩) hb2l).trans (hc2 i v hv))
            obtain ⟨M, hM⟩ : ∃ M, pre ++ (f.l.take j).map Ent.id = M := ⟨_, rfl⟩
            have HM := Lib.hid (show pre ++ (f.l.take (j + 1)).map Ent.id = M ++ [x.id] by rw [List.take_add_one, hx, ← hM]; simp)
            have HML := Lib.hid (show M.length ≤ 400 by rw [← hM]; have := HPL.out; simp; omega)
            rw [hM] at HO3 ⊢
            clear hc2 hx hM hfa
            obtain ⟨W6, hW6⟩ : ∃ y, wr.alloc (.cells (entE x).toArray 39) = y := ⟨_, rfl⟩
            have HB6 := Lib.hid (show Below wr.heap.size wr W6 by rw [← hW6]; exact cur_new _ _)
            have HX6 := Lib.hid (show Blk W6 wr.heap.size 39 (entE x) by rw [← hW6]; exact Blk.new wr _ _)
            have S6 := Lib.hid hW6
            have e0 : W6.cell? ⟨wr.heap.size, 0, none⟩ = some (.int .i64 x.id) := by rw [HX6.out.cell]; rfl
            clear hW6
            go_upto_region 11 with (first | (refine wpList_load_mid rfl 39 _ rfl b2 (off2 + j * 21) (by rfl) (entE x) _ HRA.out (by rfl) (by rfl) ent_info ?_) | (refine wpList_storeNew rfl _ _ 39 rfl _ (entE x).toArray ent_info (by rfl) (by rfl) rfl (ent_one _) ?_; rw [S6.out]))
            refine wp_region_lit ?_
            (refine wpList_step (fun K hK => ?_); go_simp; refine hK _ _ ?_; clear hK K)
            (refine wpList_step (fun K hK => ?_); go_simp; refine hK _ _ ?_; clear hK K)
            (refine wpList_step (fun K hK => ?_); go_simp; refine hK _ _ ?_; clear hK K)
            (refine wpList_step (fun K hK => ?_); go_simp; refine hK _ _ ?_; clear hK K)
            obtain ⟨W7, hW7⟩ : ∃ y, W6.alloc (.cells (inE x.id).toArray 2) = y := ⟨_, rfl⟩
            have hb7 : Below W6.heap.size W6 W7 := by rw [← hW7]; exact cur_new _ _
            have hk7 : W7.heap[W6.heap.size]? = some (.cells (inE x.id).toArray 2 (0, 0)) := by rw [← hW7]; exact heap_alloc_new _ _
            have hsh : W6.alloc (.cells #[.int .i64 x.id] 2) = W7 := hW7
            rw [hsh]
            clear hW7 hsh
            have hw7 : Below wr.heap.size wr W7 := cur_step1 HB6.out hb7
            have hs7 := hw7.size
            have hs3 := HB3.out.size
            have hs2 := HW2.out
            refine wpList_app1 Try.i64Elem W7 rfl (.tmp 46) (.tmp 49) rfl (w.heap.size + 1) A' c' M (by rfl) (own_below (own_below HO3.out HB6.out (Nat.le_refl _)) hb7 (Nat.le_refl _)) x.id W6.heap.size 1 (by rfl) hk7 (by have := HML.out; unfold maxLen; omega) (by have := HML.out; omega) (by omega) ?_
            intro g2 cap w8 ha
            have HB8 := Lib.hid (show Below (w.heap.size + 1) w2 w8 from (HB3.out.trans (hw7.mono (by omega))).grown ha.grown (by omega) (own_base HO3.out))
            have HO8 := Lib.hid (show OwnL inE 1 2 (w.heap.size + 1) w8 (.slice (some ⟨g2, 0, none⟩) (M.length + 1) cap) (M ++ [x.id]) from ha.one rfl)
            clear ha hk7 hb7 hw7 hs7 hs3 hs2
            go_wp2_with (fail)
            refine ⟨⟨j + 1, some ⟨g2, 0, none⟩, cap, by omega, rfl, by rw [HM.out, List.length_append]; rfl, ?_, HB8.out, HW2.out⟩, by show f.l.length - (j + 1) < f.l.length - j; omega⟩
            rw [HM.out]
            exact HO8.out
          · have HJ := Lib.hid (show (f.l.take j).map Ent.id = f.l.map Ent.id by rw [show f.l.take j = f.l from by rw [show j = f.l.length by omega]; exact List.take_length])
            have HBW := Lib.hid (show Below w.heap.size w wr from HB2.out.trans (HB3.out.mono (by omega)))
            have HBK4 := Lib.hid (show Blk wr w.heap.size 22 (fl.map flV) from (HB3.out.block _ (by omega)).trans HBK2.out)
            go_wp2_with (fail)
            refine ⟨⟨k + 1, A', c', by rw [H3.out]; omega, rfl, by rw [HNX.out, HJ.out], ?_, HOK2.out, HBW.out, HBK4.out⟩, by show 3 - (k + 1) < 3 - k; omega⟩
            have := HO3.out
            rw [HJ.out] at this ⊢
            rw [HNX.out]
            exact this
      · obtain ⟨v, hv⟩ : ∃ v, chkA f.l = v := ⟨_, rfl⟩
        have gv : (v != 0) = true := by rw [← hv]; simpa using hc
        have HE := Lib.hid (show flE fl = v by rw [flE_first HFF.out HOK.out hc, hv])
        have HR := Lib.hid (HBAD.out (by rw [HE.out, ← hv]; exact hc) _ HB2.out)
        rw [hv]
        clear hc hv
        go_wp2_with (fail)
        go_ret3
        have := HR.out
        rw [HE.out] at this
        exact this
    · have hk9 : k = 3 := by omega
      subst hk9
      have HO4 := Lib.hid (show OwnL inE 1 2 (w.heap.size + 1) wr (.slice A (flI fl).length c) (flI fl) by
        have := HO.out
        rw [show fl.take 3 = fl from by rw [← H3.out]; exact List.take_length] at this
        exact this)
      have HOK4 := Lib.hid (show ∀ f ∈ fl, chkA f.l = 0 by
        have := HOK.out
        rw [show fl.take 3 = fl from by rw [← H3.out]; exact List.take_length] at this
        exact this)
      rw [show fl.take 3 = fl from by rw [← H3.out]; exact List.take_length]
      have RB := Lib.hid (HRD.out ⟨A1, c1, B⟩ (by rw [HFL.out]; simp))
      have RL := Lib.hid (HRD.out ⟨A2, c2, L⟩ (by rw [HFL.out]; simp))
      have RR' := Lib.hid (HRD.out ⟨A3, c3, R⟩ (by rw [HFL.out]; simp))
      have GB := Lib.hid (goodA_of (HOK4.out ⟨A1, c1, B⟩ (by rw [HFL.out]; simp)))
      have GL := Lib.hid (goodA_of (HOK4.out ⟨A2, c2, L⟩ (by rw [HFL.out]; simp)))
      have GR := Lib.hid (goodA_of (HOK4.out ⟨A3, c3, R⟩ (by rw [HFL.out]; simp)))
      obtain ⟨zs, hzs⟩ : ∃ zs, flI fl = zs := ⟨_, rfl⟩
      have HZS := Lib.hid (show zs = (B ++ (L ++ R)).map Ent.id by rw [← hzs, HFL.out]; simp [flI])
      have HZL := Lib.hid (show zs.length ≤ 400 by rw [← hzs]; exact HLEN.out)
      have HBL := Lib.hid (show B.length ≤ 400 ∧ L.length ≤ 400 ∧ R.length ≤ 400 by have := HZL.out; rw [HZS.out] at this; simp at this; omega)
      rw [hzs] at HO4 ⊢
      clear hzs
      go_wp2_with (fail)
      refine (sort_any wr (w.heap.size + 1) A c zs HO4.out HZL.out).mono ?_
      rintro e w3 ⟨rfl, ho3, hg3⟩
      have HB3 := Lib.hid (show Below w.heap.size w w3 from HB.out.grown hg3 HB.out.size (fun b hb => by have := own_base HO4.out b hb; omega))
      have HO5 := Lib.hid (show OwnL inE 1 2 (w.heap.size + 1) w3 (.slice A (sortL zs).length c) (sortL zs) by rw [sortL_len]; exact ho3)
      have HSL := Lib.hid (show (sortL zs).length ≤ 400 by rw [sortL_len]; exact HZL.out)
      rw [show zs.length = (sortL zs).length from (sortL_len zs).symm]
      have HIU := Lib.hid (show idsU B L R = Lib.compact (sortL zs) by unfold idsU; rw [HZS.out])
      generalize sortL zs = ys at HO5 HSL HIU ⊢
      clear ho3 hg3
      go_wp2_with (fail)
      refine (byid_p B A1 c1 w3 (by have := HBL.out; omega) (fun x hx => wf_id (GB.out.ok x hx)) ((RB.out.below HB3.out).more HB3.out.size)).mono ?_
      rintro e w4 ⟨⟨bx, nx, rfl, hbx, hmx⟩, hb4⟩
      have HB4 := Lib.hid (cur_step1 HB3.out hb4)
      have HMX := Lib.hid hmx
      have HO6 := Lib.hid (own_below HO5.out hb4 (Nat.le_refl _))
      have HBX := Lib.hid (show w.heap.size ≤ bx from Nat.le_trans HB3.out.size hbx)
      have HXA := Lib.hid (show ∀ k, (Value.slice A ys.length c).ownBlock = some k → k ≠ bx from fun k hk e => by have := (own_range HO5.out k hk).2; omega)
      clear hbx hmx hb4
      go_wp2_with (fail)
      refine (byid_p L A2 c2 w4 (by have := HBL.out; omega) (fun x hx => wf_id (GL.out.ok x hx)) ((RL.out.below HB4.out).more HB4.out.size)).mono ?_
      rintro e w5 ⟨⟨bp, np, rfl, hbp, hmp⟩, hb5⟩
      have HB5 := Lib.hid (cur_step1 HB4.out hb5)
      have HMP := Lib.hid hmp
      have HMX5 := Lib.hid (HMX.out.to hb5)
      have HO7 := Lib.hid (own_below HO6.out hb5 (Nat.le_refl _))
      have HBP := Lib.hid (show w.heap.size ≤ bp from Nat.le_trans HB4.out.size hbp)
      have HPA := Lib.hid (show ∀ k, (Value.slice A ys.length c).ownBlock = some k → k ≠ bp from fun k hk e => by have := (own_range HO6.out k hk).2; omega)
      clear hbp hmp hb5
      go_wp2_with (fail)
      refine (byid_p R A3 c3 w5 (by have := HBL.out; omega) (fun x hx => wf_id (GR.out.ok x hx)) ((RR'.out.below HB5.out).more HB5.out.size)).mono ?_
      rintro e w6 ⟨⟨bq, nq, rfl, hbq, hmq⟩, hb6⟩
      have HB6 := Lib.hid (cur_step1 HB5.out hb6)
      have HMQ := Lib.hid hmq
      have HMP6 := Lib.hid (HMP.out.to hb6)
      have HMX6 := Lib.hid (HMX5.out.to hb6)
      have HO8 := Lib.hid (own_below HO7.out hb6 (Nat.le_refl _))
      have HBQ := Lib.hid (show w.heap.size ≤ bq from Nat.le_trans HB5.out.size hbq)
      have HQA := Lib.hid (show ∀ k, (Value.slice A ys.length c).ownBlock = some k → k ≠ bq from fun k hk e => by have := (own_range HO7.out k hk).2; omega)
      clear hbq hmq hb6
      go_wp2_with (fail)
      refine (compact_any w6 (w.heap.size + 1) A c ys HO8.out HSL.out).mono ?_
      rintro e w7 ⟨rfl, hr7, hg7⟩
      have HB7 := Lib.hid (show Below w.heap.size w w7 from HB6.out.grown hg7 HB6.out.size (fun b hb => by have := own_base HO8.out b hb; omega))
      have HR7 := Lib.hid hr7
      have HMX7 := Lib.hid (HMX6.out.other hg7 (fun e => HXA.out bx e.symm rfl))
      have HMP7 := Lib.hid (HMP6.out.other hg7 (fun e => HPA.out bp e.symm rfl))
      have HMQ7 := Lib.hid (HMQ.out.other hg7 (fun e => HQA.out bq e.symm rfl))
      have HCL := Lib.hid (show (Lib.compact ys).length ≤ 400 from Nat.le_trans (compact_len ys) HSL.out)
      have HWI := Lib.hid (show ∀ i ∈ Lib.compact ys, (Lit.int .i64 i).wf = true from by
        rw [← HIU.out]
        intro i hi
        rw [(idsU_spec B L R).2] at hi
        simp only [List.map_append, List.mem_append, List.mem_map] at hi
        rcases hi with ⟨x, hx, rfl⟩ | ⟨x, hx, rfl⟩ | ⟨x, hx, rfl⟩
        · exact wf_id (GB.out.ok x hx)
        · exact wf_id (GL.out.ok x hx)
        · exact wf_id (GR.out.ok x hx))
      generalize Lib.compact ys = ids at HR7 HCL HIU HWI ⊢
      clear hr7 hg7
      go_wp2_with (fail)
      go_loopw [18, 19, 64] (M3R B L R ids w7) (fun _ _ i _ => ids.length - (intOf i).toNat)
      case atStart => exact ⟨0, none, 0, none, 0, by omega, rfl, rfl, rfl, World.ownsRow_nil _ _ _ _, World.ownsRow_nil _ _ _ _, (fun k h => by cases h), Below.refl _ _⟩
      case round =>
        obtain ⟨k, D1, d1, D2, d2, hk, rfl, rfl, rfl, ho1, ho2, hdis, hb⟩ := hrel
        have HB9 := Lib.hid hb
        have HD1 := Lib.hid ho1
        have HD2 := Lib.hid ho2
        have HDD := Lib.hid hdis
        clear ho1 ho2 hdis hb
        by_cases hkl : k < ids.length
        · obtain ⟨i, hi⟩ : ∃ i, ids[k]? = some i := ⟨_, List.getElem?_eq_getElem hkl⟩
          obtain ⟨bI, oI, hA, hbI, hcI⟩ := HR7.out k i hi
          subst hA
          have hci : wr.cell? ⟨bI, oI + k, none⟩ = some (.int .i64 i) := by
            rw [HB9.out.cell (p := ⟨bI, oI + k, none⟩) hbI]
            have := hcI 0 _ rfl
            simpa using this
          have HI := Lib.hid hi
          clear hcI hi
          go_upto_region 21 with (fail)
          have HIW := Lib.hid (show (Lit.int .i64 i).wf = true from HWI.out i (List.mem_of_getElem? HI.out))
          refine wp_abs (mrgF bx bp bq i (byF B i) (byF L i) (byF R i)) (Box3 wr (byF B i) (byF L i) (byF R i)) ?reg ?beh
          case beh =>
            have HNO := Lib.hid (mOut_next (B := B) (L := L) (R := R) HI.out)
            have HNC := Lib.hid (mCl_next (B := B) (L := L) (R := R) HI.out)
            have HTS := Lib.hid (tk_some GB.out GL.out GR.out (i := i))
            have HTN := Lib.hid (tk_none GB.out GL.out GR.out (i := i))
            have HCG := Lib.hid (cl_get GB.out GL.out GR.out i)
            intro b1 b2 b3 w2 hbx
            have hk400 : k < 400 := Nat.lt_of_lt_of_le hkl HCL.out
            unfold mrgF
            go_simp
            obtain ⟨M, hM⟩ : ∃ M, mOut B L R (ids.take k) = M := ⟨_, rfl⟩
            obtain ⟨C, hC⟩ : ∃ C, mCl B L R (ids.take k) = C := ⟨_, rfl⟩
            have HML := Lib.hid (show M.length ≤ 400 by rw [← hM]; exact Nat.le_trans (List.length_filterMap_le _ _) (Nat.le_trans (List.length_take_le _ _) (Nat.le_trans hk HCL.out)))
            have HCM := Lib.hid (show C.length ≤ 400 by rw [← hC]; exact Nat.le_trans (List.length_filter_le _ _) (Nat.le_trans (List.length_take_le _ _) (Nat.le_trans hk HCL.out)))
            rw [hM] at HD1 HDD HNO ⊢
            rw [hC] at HD2 HDD HNC ⊢
            clear hM hC
            generalize byF B i = x at hbx HTS HTN HCG ⊢
            generalize byF L i = p at hbx HTS HTN HCG ⊢
            generalize byF R i = q at hbx HTS HTN HCG ⊢
            obtain ⟨hb3, hx1, hx2, hx3, n1, n2, n3⟩ := hbx
            have HX2 := Lib.hid hx1
            have l1 := hx1.lt
            have l2 := hx2.lt
            have l3 := hx3.lt
            obtain ⟨W3, hW3⟩ : ∃ y, w2.alloc (.cells (entE x).toArray 39) = y := ⟨_, rfl⟩
            have hn3 : Below w2.heap.size w2 W3 := by rw [← hW3]; exact cur_new _ _
            have HT3 := Lib.hid (show Blk W3 w2.heap.size 39 (entE x) by rw [← hW3]; exact Blk.new w2 _ _)
            have HX3 := Lib.hid (hx1.to hn3)
            have HP3 := Lib.hid (hx2.to hn3)
            have HQ3 := Lib.hid (hx3.to hn3)
            have HB3' := Lib.hid (cur_step1 (cur_step1 HB9.out hb3) hn3)
            have HO1 := Lib.hid (own_below (own_below HD1.out hb3 (Nat.le_refl _)) hn3 (Nat.le_refl _))
            have HO2 := Lib.hid (own_below (own_below HD2.out hb3 (Nat.le_refl _)) hn3 (Nat.le_refl _))
            have HT1 := Lib.hid (show ∀ b, (Value.slice D1 M.length d1).ownBlock = some b → b < w2.heap.size from fun b hb => Nat.lt_of_lt_of_le (own_range HD1.out b hb).2 hb3.size)
            have HT2 := Lib.hid (show ∀ b, (Value.slice D2 C.length d2).ownBlock = some b → b < w2.heap.size from fun b hb => Nat.lt_of_lt_of_le (own_range HD2.out b hb).2 hb3.size)
            have hw72 : w7.heap.size ≤ w2.heap.size := (cur_step1 HB9.out hb3).size
            have S3 := Lib.hid hW3
            have e3 : W3.cell? ⟨w2.heap.size, 0, none⟩ = some (.int .i64 x.id) := by rw [HT3.out.cell]; rfl
            clear hW3 hn3 hb3 hx1 hx2 hx3
            by_cases h1 : p = x
            · have HTE := Lib.hid (show tkE x p q = q by unfold tkE; rw [if_pos h1])
              have HN2 := Lib.hid (show mCl B L R (ids.take (k + 1)) = C by rw [HNC.out, HCG.out]; simp [h1])
              have k1 : ∀ w : World, (binOp .eql 39 (.agg (entE p).toArray) (.agg (entE x).toArray)).run Try.prog w = .ok (.bool true) w := fun w => by rw [ent_eql]; simp [h1]
              obtain ⟨W4, hW4⟩ : ∃ y, W3.setRow w2.heap.size (entE q).toArray = y := ⟨_, rfl⟩
              have HT4 := Lib.hid (show Blk W4 w2.heap.size 39 (entE q) by rw [← hW4]; exact blk_row HT3.out _)
              have HB4' := Lib.hid (show Below w7.heap.size w7 W4 by rw [← hW4]; exact row_below HB3'.out (by omega) _)
              have HQ1 := Lib.hid (show OwnL entE 21 39 w7.heap.size W4 (.slice D1 M.length d1) M by rw [← hW4]; exact own_row HO1.out (fun b hb => Nat.ne_of_lt (HT1.out b hb)) _)
              have HQ2 := Lib.hid (show OwnL inE 1 42 w7.heap.size W4 (.slice D2 C.length d2) C by rw [← hW4]; exact own_row HO2.out (fun b hb => Nat.ne_of_lt (HT2.out b hb)) _)
              have S4 := Lib.hid hW4
              have e4 : W4.cell? ⟨w2.heap.size, 0, none⟩ = some (.int .i64 q.id) := by rw [HT4.out.cell]; rfl
              clear hW4 e3
              clear h1
              go_upto_region 24 with (first | (refine wpList_loadC rfl _ 39 rfl b1 39 (entE x) _ rfl (by rfl) (by rfl) (by rfl) HX2.out ?_) | (refine wpList_storeNew rfl _ _ 39 rfl _ (entE x).toArray ent_info (by rfl) (by rfl) rfl (ent_one _) ?_; rw [S3.out]))
              refine wp_region_lit ?_
              refine wpList_loadC rfl _ 39 rfl b2 39 (entE p) _ rfl (by rfl) (by rfl) (by rfl) HP3.out ?_
              refine wpList_loadC rfl _ 39 rfl b1 39 (entE x) _ rfl (by rfl) (by rfl) (by rfl) HX3.out ?_
              (refine wpList_step (fun K hK => ?_); go_simp; refine hK _ _ ?_; clear hK K)
              go_upto_region 25 with (fail)
              refine wp_region_lit ?_
              refine wpList_loadC rfl _ 39 rfl b3 39 (entE q) _ rfl (by rfl) (by rfl) (by rfl) HQ3.out ?_
              refine wpList_storeC rfl _ _ 39 rfl w2.heap.size 39 (entE x) (entE q).toArray ent_info (by rfl) (by rfl) HT3.out (by rfl) (ent_one _) ?_
              rw [S4.out]
              by_cases hid : q.id = 0
              · have gi : (q.id != 0) = false := by simp [hid]
                have HTI := Lib.hid (HTN.out (by rw [HTE.out]; exact hid))
                have HN1 := Lib.hid (show mOut B L R (ids.take (k + 1)) = M by rw [HNO.out, HTI.out]; exact List.append_nil _)
                clear hid
                go_wp2_with (fail)
                refine ⟨⟨k + 1, D1, d1, D2, d2, by omega, rfl, by rw [HN1.out], by rw [HN2.out], ?_, ?_, HDD.out, HB4'.out⟩, by show ids.length - (k + 1) < ids.length - k; omega⟩
                · rw [HN1.out]; exact HQ1.out
                · rw [HN2.out]; exact HQ2.out
              · have gi : (q.id != 0) = true := by simpa using hid
                have HTI := Lib.hid (HTS.out (by rw [HTE.out]; exact hid))
                have HN1 := Lib.hid (show mOut B L R (ids.take (k + 1)) = M ++ [q] by rw [HNO.out, HTI.out, HTE.out]; rfl)
                clear hid
                go_upto_region 29 with (fail)
                refine wp_region_lit ?_
                (refine wpList_step (fun K hK => ?_); go_simp; refine hK _ _ ?_; clear hK K)
                refine wpList_loadC rfl _ 39 rfl w2.heap.size 39 (entE q) _ (by rfl) (by rfl) (by rfl) (by rfl) HT4.out ?_
                refine wpList_buildE Try.enElem rfl 1 _ rfl [q] rfl (by decide) (by decide) (by rfl) ?_
                rw [show [q].flatMap entE = entE q from List.append_nil _]
                obtain ⟨W7, hW7⟩ : ∃ y, W4.alloc (.cells (entE q).toArray 39) = y := ⟨_, rfl⟩
                have hb7 : Below W4.heap.size W4 W7 := by rw [← hW7]; exact cur_new _ _
                have hk7 : W7.heap[W4.heap.size]? = some (.cells (entE q).toArray 39 (0, 0)) := by rw [← hW7]; exact heap_alloc_new _ _
                rw [hW7]
                clear hW7
                have HO27 := Lib.hid (own_below HQ2.out hb7 (Nat.le_refl _))
                refine wpList_app1 Try.enElem W7 rfl (.tmp 101) (.tmp 103) rfl w7.heap.size D1 d1 M (by rfl) (own_below HQ1.out hb7 (Nat.le_refl _)) q W4.heap.size 1 (by rfl) hk7 (by have := HML.out; unfold maxLen; omega) (by have := HML.out; omega) ((cur_step1 HB4'.out hb7).size) ?_
                intro g2 cap w8 ha
                have HB8 := Lib.hid (show Below w7.heap.size w7 w8 from (cur_step1 HB4'.out hb7).grown ha.grown (cur_step1 HB4'.out hb7).size (own_base HQ1.out))
                have HO8 := Lib.hid (show OwnL entE 21 39 w7.heap.size w8 (.slice (some ⟨g2, 0, none⟩) (M.length + 1) cap) (M ++ [q]) from ha.one rfl)
                have HO28 := Lib.hid (own_grown HO27.out ha.grown (fun b hb e => HDD.out b hb e.symm))
                have HD8 := Lib.hid (show ∀ b, (Value.slice D2 C.length d2).ownBlock = some b → (Value.slice (some ⟨g2, 0, none⟩) (M.length + 1) cap).ownBlock ≠ some b from fun b hb e => by
                  rcases ha.at_ with h | h
                  · exact HDD.out b hb (h.trans e)
                  · exact absurd (own_range HO27.out b hb).2 (by rw [← Option.some.inj e, h]; exact Nat.lt_irrefl _))
                clear ha hk7 hb7
                go_wp2_with (fail)
                refine ⟨⟨k + 1, some ⟨g2, 0, none⟩, cap, D2, d2, by omega, rfl, by rw [HN1.out, List.length_append]; rfl, by rw [HN2.out], ?_, ?_, HD8.out, HB8.out⟩, by show ids.length - (k + 1) < ids.length - k; omega⟩
                · rw [HN1.out]; exact HO8.out
                · rw [HN2.out]; exact HO28.out
            · by_cases h2 : q = x
              · have HTE := Lib.hid (show tkE x p q = p by unfold tkE; rw [if_neg h1, if_pos (Or.inl h2)])
                have HN2 := Lib.hid (show mCl B L R (ids.take (k + 1)) = C by rw [HNC.out, HCG.out]; simp [h1, h2])
                have k1 : ∀ w : World, (binOp .eql 39 (.agg (entE p).toArray) (.agg (entE x).toArray)).run Try.prog w = .ok (.bool false) w := fun w => by rw [ent_eql]; simp [h1]
                have k2 : ∀ w : World, (binOp .eql 39 (.agg (entE q).toArray) (.agg (entE x).toArray)).run Try.prog w = .ok (.bool true) w := fun w => by rw [ent_eql]; simp [h2]
                obtain ⟨W4, hW4⟩ : ∃ y, W3.setRow w2.heap.size (entE p).toArray = y := ⟨_, rfl⟩
                have HT4 := Lib.hid (show Blk W4 w2.heap.size 39 (entE p) by rw [← hW4]; exact blk_row HT3.out _)
                have HB4' := Lib.hid (show Below w7.heap.size w7 W4 by rw [← hW4]; exact row_below HB3'.out (by omega) _)
                have HQ1 := Lib.hid (show OwnL entE 21 39 w7.heap.size W4 (.slice D1 M.length d1) M by rw [← hW4]; exact own_row HO1.out (fun b hb => Nat.ne_of_lt (HT1.out b hb)) _)
                have HQ2 := Lib.hid (show OwnL inE 1 42 w7.heap.size W4 (.slice D2 C.length d2) C by rw [← hW4]; exact own_row HO2.out (fun b hb => Nat.ne_of_lt (HT2.out b hb)) _)
                have S4 := Lib.hid hW4
                have e4 : W4.cell? ⟨w2.heap.size, 0, none⟩ = some (.int .i64 p.id) := by rw [HT4.out.cell]; rfl
                clear hW4 e3
                clear h1 h2
                go_upto_region 24 with (first | (refine wpList_loadC rfl _ 39 rfl b1 39 (entE x) _ rfl (by rfl) (by rfl) (by rfl) HX2.out ?_) | (refine wpList_storeNew rfl _ _ 39 rfl _ (entE x).toArray ent_info (by rfl) (by rfl) rfl (ent_one _) ?_; rw [S3.out]))
                refine wp_region_lit ?_
                refine wpList_loadC rfl _ 39 rfl b2 39 (entE p) _ rfl (by rfl) (by rfl) (by rfl) HP3.out ?_
                refine wpList_loadC rfl _ 39 rfl b1 39 (entE x) _ rfl (by rfl) (by rfl) (by rfl) HX3.out ?_
                (refine wpList_step (fun K hK => ?_); go_simp; refine hK _ _ ?_; clear hK K)
                go_upto_region 26 with (fail)
                refine wp_region_lit ?_
                refine wpList_loadC rfl _ 39 rfl b3 39 (entE q) _ rfl (by rfl) (by rfl) (by rfl) HQ3.out ?_
                refine wpList_loadC rfl _ 39 rfl b1 39 (entE x) _ rfl (by rfl) (by rfl) (by rfl) HX3.out ?_
                (refine wpList_step (fun K hK => ?_); go_simp; refine hK _ _ ?_; clear hK K)
                (refine wpList_step (fun K hK => ?_); go_simp; refine hK _ _ ?_; clear hK K)
                go_upto_region 27 with (fail)
                refine wp_region_lit ?_
                refine wpList_loadC rfl _ 39 rfl b2 39 (entE p) _ rfl (by rfl) (by rfl) (by rfl) HP3.out ?_
                refine wpList_storeC rfl _ _ 39 rfl w2.heap.size 39 (entE x) (entE p).toArray ent_info (by rfl) (by rfl) HT3.out (by rfl) (ent_one _) ?_
                rw [S4.out]
                by_cases hid : p.id = 0
                · have gi : (p.id != 0) = false := by simp [hid]
                  have HTI := Lib.hid (HTN.out (by rw [HTE.out]; exact hid))
                  have HN1 := Lib.hid (show mOut B L R (ids.take (k + 1)) = M by rw [HNO.out, HTI.out]; exact List.append_nil _)
                  clear hid
                  go_wp2_with (fail)
                  refine ⟨⟨k + 1, D1, d1, D2, d2, by omega, rfl, by rw [HN1.out], by rw [HN2.out], ?_, ?_, HDD.out, HB4'.out⟩, by show ids.length - (k + 1) < ids.length - k; omega⟩
                  · rw [HN1.out]; exact HQ1.out
                  · rw [HN2.out]; exact HQ2.out
                · have gi : (p.id != 0) = true := by simpa using hid
                  have HTI := Lib.hid (HTS.out (by rw [HTE.out]; exact hid))
                  have HN1 := Lib.hid (show mOut B L R (ids.take (k + 1)) = M ++ [p] by rw [HNO.out, HTI.out, HTE.out]; rfl)
                  clear hid
                  go_upto_region 29 with (fail)
                  refine wp_region_lit ?_
                  (refine wpList_step (fun K hK => ?_); go_simp; refine hK _ _ ?_; clear hK K)
                  refine wpList_loadC rfl _ 39 rfl w2.heap.size 39 (entE p) _ (by rfl) (by rfl) (by rfl) (by rfl) HT4.out ?_
                  refine wpList_buildE Try.enElem rfl 1 _ rfl [p] rfl (by decide) (by decide) (by rfl) ?_
                  rw [show [p].flatMap entE = entE p from List.append_nil _]
                  obtain ⟨W7, hW7⟩ : ∃ y, W4.alloc (.cells (entE p).toArray 39) = y := ⟨_, rfl⟩
                  have hb7 : Below W4.heap.size W4 W7 := by rw [← hW7]; exact cur_new _ _
                  have hk7 : W7.heap[W4.heap.size]? = some (.cells (entE p).toArray 39 (0, 0)) := by rw [← hW7]; exact heap_alloc_new _ _
                  rw [hW7]
                  clear hW7
                  have HO27 := Lib.hid (own_below HQ2.out hb7 (Nat.le_refl _))
                  refine wpList_app1 Try.enElem W7 rfl (.tmp 101) (.tmp 103) rfl w7.heap.size D1 d1 M (by rfl) (own_below HQ1.out hb7 (Nat.le_refl _)) p W4.heap.size 1 (by rfl) hk7 (by have := HML.out; unfold maxLen; omega) (by have := HML.out; omega) ((cur_step1 HB4'.out hb7).size) ?_
                  intro g2 cap w8 ha
                  have HB8 := Lib.hid (show Below w7.heap.size w7 w8 from (cur_step1 HB4'.out hb7).grown ha.grown (cur_step1 HB4'.out hb7).size (own_base HQ1.out))
                  have HO8 := Lib.hid (show OwnL entE 21 39 w7.heap.size w8 (.slice (some ⟨g2, 0, none⟩) (M.length + 1) cap) (M ++ [p]) from ha.one rfl)
                  have HO28 := Lib.hid (own_grown HO27.out ha.grown (fun b hb e => HDD.out b hb e.symm))
                  have HD8 := Lib.hid (show ∀ b, (Value.slice D2 C.length d2).ownBlock = some b → (Value.slice (some ⟨g2, 0, none⟩) (M.length + 1) cap).ownBlock ≠ some b from fun b hb e => by
                    rcases ha.at_ with h | h
                    · exact HDD.out b hb (h.trans e)
                    · exact absurd (own_range HO27.out b hb).2 (by rw [← Option.some.inj e, h]; exact Nat.lt_irrefl _))
                  clear ha hk7 hb7
                  go_wp2_with (fail)
                  refine ⟨⟨k + 1, some ⟨g2, 0, none⟩, cap, D2, d2, by omega, rfl, by rw [HN1.out, List.length_append]; rfl, by rw [HN2.out], ?_, ?_, HD8.out, HB8.out⟩, by show ids.length - (k + 1) < ids.length - k; omega⟩
                  · rw [HN1.out]; exact HO8.out
                  · rw [HN2.out]; exact HO28.out
              · by_cases h3 : q = p
                · have HTE := Lib.hid (show tkE x p q = p by unfold tkE; rw [if_neg h1, if_pos (Or.inr h3)])
                  have HN2 := Lib.hid (show mCl B L R (ids.take (k + 1)) = C by rw [HNC.out, HCG.out]; simp [h1, h2, h3])
                  have k1 : ∀ w : World, (binOp .eql 39 (.agg (entE p).toArray) (.agg (entE x).toArray)).run Try.prog w = .ok (.bool false) w := fun w => by rw [ent_eql]; simp [h1]
                  have k2 : ∀ w : World, (binOp .eql 39 (.agg (entE q).toArray) (.agg (entE x).toArray)).run Try.prog w = .ok (.bool false) w := fun w => by rw [ent_eql]; simp [h2]
                  have k3 : ∀ w : World, (binOp .eql 39 (.agg (entE q).toArray) (.agg (entE p).toArray)).run Try.prog w = .ok (.bool true) w := fun w => by rw [ent_eql]; simp [h3]
                  obtain ⟨W4, hW4⟩ : ∃ y, W3.setRow w2.heap.size (entE p).toArray = y := ⟨_, rfl⟩
                  have HT4 := Lib.hid (show Blk W4 w2.heap.size 39 (entE p) by rw [← hW4]; exact blk_row HT3.out _)
                  have HB4' := Lib.hid (show Below w7.heap.size w7 W4 by rw [← hW4]; exact row_below HB3'.out (by omega) _)
                  have HQ1 := Lib.hid (show OwnL entE 21 39 w7.heap.size W4 (.slice D1 M.length d1) M by rw [← hW4]; exact own_row HO1.out (fun b hb => Nat.ne_of_lt (HT1.out b hb)) _)
                  have HQ2 := Lib.hid (show OwnL inE 1 42 w7.heap.size W4 (.slice D2 C.length d2) C by rw [← hW4]; exact own_row HO2.out (fun b hb => Nat.ne_of_lt (HT2.out b hb)) _)
                  have S4 := Lib.hid hW4
                  have e4 : W4.cell? ⟨w2.heap.size, 0, none⟩ = some (.int .i64 p.id) := by rw [HT4.out.cell]; rfl
                  clear hW4 e3
                  clear h1 h2 h3
                  go_upto_region 24 with (first | (refine wpList_loadC rfl _ 39 rfl b1 39 (entE x) _ rfl (by rfl) (by rfl) (by rfl) HX2.out ?_) | (refine wpList_storeNew rfl _ _ 39 rfl _ (entE x).toArray ent_info (by rfl) (by rfl) rfl (ent_one _) ?_; rw [S3.out]))
                  refine wp_region_lit ?_
                  refine wpList_loadC rfl _ 39 rfl b2 39 (entE p) _ rfl (by rfl) (by rfl) (by rfl) HP3.out ?_
                  refine wpList_loadC rfl _ 39 rfl b1 39 (entE x) _ rfl (by rfl) (by rfl) (by rfl) HX3.out ?_
                  (refine wpList_step (fun K hK => ?_); go_simp; refine hK _ _ ?_; clear hK K)
                  go_upto_region 26 with (fail)
                  refine wp_region_lit ?_
                  refine wpList_loadC rfl _ 39 rfl b3 39 (entE q) _ rfl (by rfl) (by rfl) (by rfl) HQ3.out ?_
                  refine wpList_loadC rfl _ 39 rfl b1 39 (entE x) _ rfl (by rfl) (by rfl) (by rfl) HX3.out ?_
                  (refine wpList_step (fun K hK => ?_); go_simp; refine hK _ _ ?_; clear hK K)
                  (refine wpList_step (fun K hK => ?_); go_simp; refine hK _ _ ?_; clear hK K)
                  refine wpList_load_g (by rfl) 39 _ rfl b3 (by rfl) 39 (entE q).toArray (0, 0) _ HQ3.out Try.underlying39 rfl ent_info ?_
                  refine wpList_load_g (by rfl) 39 _ rfl b2 (by rfl) 39 (entE p).toArray (0, 0) _ HP3.out Try.underlying39 rfl ent_info ?_
                  (refine wpList_step (fun K hK => ?_); go_simp; refine hK _ _ ?_; clear hK K)
                  go_upto_region 27 with (fail)
                  refine wp_region_lit ?_
                  refine wpList_loadC rfl _ 39 rfl b2 39 (entE p) _ rfl (by rfl) (by rfl) (by rfl) HP3.out ?_
                  refine wpList_storeC rfl _ _ 39 rfl w2.heap.size 39 (entE x) (entE p).toArray ent_info (by rfl) (by rfl) HT3.out (by rfl) (ent_one _) ?_
                  rw [S4.out]
                  by_cases hid : p.id = 0
                  · have gi : (p.id != 0) = false := by simp [hid]
                    have HTI := Lib.hid (HTN.out (by rw [HTE.out]; exact hid))
                    have HN1 := Lib.hid (show mOut B L R (ids.take (k + 1)) = M by rw [HNO.out, HTI.out]; exact List.append_nil _)
                    clear hid
                    go_wp2_with (fail)
                    refine ⟨⟨k + 1, D1, d1, D2, d2, by omega, rfl, by rw [HN1.out], by rw [HN2.out], ?_, ?_, HDD.out, HB4'.out⟩, by show ids.length - (k + 1) < ids.length - k; omega⟩
                    · rw [HN1.out]; exact HQ1.out
                    · rw [HN2.out]; exact HQ2.out
                  · have gi : (p.id != 0) = true := by simpa using hid
                    have HTI := Lib.hid (HTS.out (by rw [HTE.out]; exact hid))
                    have HN1 := Lib.hid (show mOut B L R (ids.take (k + 1)) = M ++ [p] by rw [HNO.out, HTI.out, HTE.out]; rfl)
                    clear hid
                    go_upto_region 29 with (fail)
                    refine wp_region_lit ?_
                    (refine wpList_step (fun K hK => ?_); go_simp; refine hK _ _ ?_; clear hK K)
                    refine wpList_loadC rfl _ 39 rfl w2.heap.size 39 (entE p) _ (by rfl) (by rfl) (by rfl) (by rfl) HT4.out ?_
                    refine wpList_buildE Try.enElem rfl 1 _ rfl [p] rfl (by decide) (by decide) (by rfl) ?_
                    rw [show [p].flatMap entE = entE p from List.append_nil _]
                    obtain ⟨W7, hW7⟩ : ∃ y, W4.alloc (.cells (entE p).toArray 39) = y := ⟨_, rfl⟩
                    have hb7 : Below W4.heap.size W4 W7 := by rw [← hW7]; exact cur_new _ _
                    have hk7 : W7.heap[W4.heap.size]? = some (.cells (entE p).toArray 39 (0, 0)) := by rw [← hW7]; exact heap_alloc_new _ _
                    rw [hW7]
                    clear hW7
                    have HO27 := Lib.hid (own_below HQ2.out hb7 (Nat.le_refl _))
                    refine wpList_app1 Try.enElem W7 rfl (.tmp 101) (.tmp 103) rfl w7.heap.size D1 d1 M (by rfl) (own_below HQ1.out hb7 (Nat.le_refl _)) p W4.heap.size 1 (by rfl) hk7 (by have := HML.out; unfold maxLen; omega) (by have := HML.out; omega) ((cur_step1 HB4'.out hb7).size) ?_
                    intro g2 cap w8 ha
                    have HB8 := Lib.hid (show Below w7.heap.size w7 w8 from (cur_step1 HB4'.out hb7).grown ha.grown (cur_step1 HB4'.out hb7).size (own_base HQ1.out))
                    have HO8 := Lib.hid (show OwnL entE 21 39 w7.heap.size w8 (.slice (some ⟨g2, 0, none⟩) (M.length + 1) cap) (M ++ [p]) from ha.one rfl)
                    have HO28 := Lib.hid (own_grown HO27.out ha.grown (fun b hb e => HDD.out b hb e.symm))
                    have HD8 := Lib.hid (show ∀ b, (Value.slice D2 C.length d2).ownBlock = some b → (Value.slice (some ⟨g2, 0, none⟩) (M.length + 1) cap).ownBlock ≠ some b from fun b hb e => by
                      rcases ha.at_ with h | h
                      · exact HDD.out b hb (h.trans e)
                      · exact absurd (own_range HO27.out b hb).2 (by rw [← Option.some.inj e, h]; exact Nat.lt_irrefl _))
                    clear ha hk7 hb7
                    go_wp2_with (fail)
                    refine ⟨⟨k + 1, some ⟨g2, 0, none⟩, cap, D2, d2, by omega, rfl, by rw [HN1.out, List.length_append]; rfl, by rw [HN2.out], ?_, ?_, HD8.out, HB8.out⟩, by show ids.length - (k + 1) < ids.length - k; omega⟩
                    · rw [HN1.out]; exact HO8.out
                    · rw [HN2.out]; exact HO28.out
                · have HTE := Lib.hid (show tkE x p q = x by unfold tkE; rw [if_neg h1, if_neg (by rintro (h | h); exact h2 h; exact h3 h)])
                  have HN2 := Lib.hid (show mCl B L R (ids.take (k + 1)) = C ++ [i] by rw [HNC.out, HCG.out]; simp [h1, h2, h3])
                  have k1 : ∀ w : World, (binOp .eql 39 (.agg (entE p).toArray) (.agg (entE x).toArray)).run Try.prog w = .ok (.bool false) w := fun w => by rw [ent_eql]; simp [h1]
                  have k2 : ∀ w : World, (binOp .eql 39 (.agg (entE q).toArray) (.agg (entE x).toArray)).run Try.prog w = .ok (.bool false) w := fun w => by rw [ent_eql]; simp [h2]
                  have k3 : ∀ w : World, (binOp .eql 39 (.agg (entE q).toArray) (.agg (entE p).toArray)).run Try.prog w = .ok (.bool false) w := fun w => by rw [ent_eql]; simp [h3]
                  clear h1 h2 h3
                  go_upto_region 24 with (first | (refine wpList_loadC rfl _ 39 rfl b1 39 (entE x) _ rfl (by rfl) (by rfl) (by rfl) HX2.out ?_) | (refine wpList_storeNew rfl _ _ 39 rfl _ (entE x).toArray ent_info (by rfl) (by rfl) rfl (ent_one _) ?_; rw [S3.out]))
                  refine wp_region_lit ?_
                  refine wpList_loadC rfl _ 39 rfl b2 39 (entE p) _ rfl (by rfl) (by rfl) (by rfl) HP3.out ?_
                  refine wpList_loadC rfl _ 39 rfl b1 39 (entE x) _ rfl (by rfl) (by rfl) (by rfl) HX3.out ?_
                  (refine wpList_step (fun K hK => ?_); go_simp; refine hK _ _ ?_; clear hK K)
                  go_upto_region 26 with (fail)
                  refine wp_region_lit ?_
                  refine wpList_loadC rfl _ 39 rfl b3 39 (entE q) _ rfl (by rfl) (by rfl) (by rfl) HQ3.out ?_
                  refine wpList_loadC rfl _ 39 rfl b1 39 (entE x) _ rfl (by rfl) (by rfl) (by rfl) HX3.out ?_
                  (refine wpList_step (fun K hK => ?_); go_simp; refine hK _ _ ?_; clear hK K)
                  (refine wpList_step (fun K hK => ?_); go_simp; refine hK _ _ ?_; clear hK K)
                  refine wpList_load_g (by rfl) 39 _ rfl b3 (by rfl) 39 (entE q).toArray (0, 0) _ HQ3.out Try.underlying39 rfl ent_info ?_
                  refine wpList_load_g (by rfl) 39 _ rfl b2 (by rfl) 39 (entE p).toArray (0, 0) _ HP3.out Try.underlying39 rfl ent_info ?_
                  (refine wpList_step (fun K hK => ?_); go_simp; refine hK _ _ ?_; clear hK K)
                  go_upto_region 23 with (fail)
                  refine wp_region_lit ?_
                  (refine wpList_step (fun K hK => ?_); go_simp; refine hK _ _ ?_; clear hK K)
                  (refine wpList_step (fun K hK => ?_); go_simp; refine hK _ _ ?_; clear hK K)
                  (refine wpList_step (fun K hK => ?_); go_simp; refine hK _ _ ?_; clear hK K)
                  refine wpList_buildE Try.clElem rfl 1 _ rfl [i] rfl (by decide) (by decide) (by rfl) ?_
                  rw [show [i].flatMap inE = inE i from List.append_nil _]
                  obtain ⟨W6, hW6⟩ : ∃ y, W3.alloc (.cells (inE i).toArray 42) = y := ⟨_, rfl⟩
                  have hb6 : Below W3.heap.size W3 W6 := by rw [← hW6]; exact cur_new _ _
                  have hk6 : W6.heap[W3.heap.size]? = some (.cells (inE i).toArray 42 (0, 0)) := by rw [← hW6]; exact heap_alloc_new _ _
                  rw [hW6]
                  clear hW6
                  refine wpList_app1 Try.clElem W6 rfl (.tmp 78) (.tmp 81) rfl w7.heap.size D2 d2 C (by rfl) (own_below HO2.out hb6 (Nat.le_refl _)) i W3.heap.size 1 (by rfl) hk6 (by have := HCM.out; unfold maxLen; omega) (by have := HCM.out; omega) ((cur_step1 HB3'.out hb6).size) ?_
                  intro g3 cap3 W4 ha
                  have HO16 := Lib.hid (own_below HO1.out hb6 (Nat.le_refl _))
                  have HB4' := Lib.hid (show Below w7.heap.size w7 W4 from (cur_step1 HB3'.out hb6).grown ha.grown (cur_step1 HB3'.out hb6).size (own_base HO2.out))
                  have HQ2 := Lib.hid (show OwnL inE 1 42 w7.heap.size W4 (.slice (some ⟨g3, 0, none⟩) (C.length + 1) cap3) (C ++ [i]) from ha.one rfl)
                  have HQ1 := Lib.hid (own_grown HO16.out ha.grown (fun b hb e => HDD.out b e.symm hb))
                  have HT4 := Lib.hid (blk_grown (HT3.out.to hb6) ha.grown (fun e => by have := HT2.out _ e.symm; omega))
                  have HDD4 := Lib.hid (show ∀ b, (Value.slice (some ⟨g3, 0, none⟩) (C ++ [i]).length cap3).ownBlock = some b → (Value.slice D1 M.length d1).ownBlock ≠ some b from fun b hb e => by
                    rcases ha.at_ with h | h
                    · exact HDD.out b (h.trans hb) e
                    · exact absurd (own_range HO16.out b e).2 (by rw [← Option.some.inj hb, h]; exact Nat.lt_irrefl _))
                  have e4 : W4.cell? ⟨w2.heap.size, 0, none⟩ = some (.int .i64 x.id) := by rw [HT4.out.cell]; rfl
                  clear ha hk6 hb6 e3
                  by_cases hid : x.id = 0
                  · have gi : (x.id != 0) = false := by simp [hid]
                    have HTI := Lib.hid (HTN.out (by rw [HTE.out]; exact hid))
                    have HN1 := Lib.hid (show mOut B L R (ids.take (k + 1)) = M by rw [HNO.out, HTI.out]; exact List.append_nil _)
                    clear hid
                    go_wp2_with (fail)
                    refine ⟨⟨k + 1, D1, d1, (some ⟨g3, 0, none⟩), cap3, by omega, rfl, by rw [HN1.out], by rw [HN2.out, List.length_append]; rfl, ?_, ?_, HDD4.out, HB4'.out⟩, by show ids.length - (k + 1) < ids.length - k; omega⟩
                    · rw [HN1.out]; exact HQ1.out
                    · rw [HN2.out]; exact HQ2.out
                  · have gi : (x.id != 0) = true := by simpa using hid
                    have HTI := Lib.hid (HTS.out (by rw [HTE.out]; exact hid))
                    have HN1 := Lib.hid (show mOut B L R (ids.take (k + 1)) = M ++ [x] by rw [HNO.out, HTI.out, HTE.out]; rfl)
                    clear hid
                    go_upto_region 29 with (fail)
                    refine wp_region_lit ?_
                    (refine wpList_step (fun K hK => ?_); go_simp; refine hK _ _ ?_; clear hK K)
                    refine wpList_loadC rfl _ 39 rfl w2.heap.size 39 (entE x) _ (by rfl) (by rfl) (by rfl) (by rfl) HT4.out ?_
                    refine wpList_buildE Try.enElem rfl 1 _ rfl [x] rfl (by decide) (by decide) (by rfl) ?_
                    rw [show [x].flatMap entE = entE x from List.append_nil _]
                    obtain ⟨W7, hW7⟩ : ∃ y, W4.alloc (.cells (entE x).toArray 39) = y := ⟨_, rfl⟩
                    have hb7 : Below W4.heap.size W4 W7 := by rw [← hW7]; exact cur_new _ _
                    have hk7 : W7.heap[W4.heap.size]? = some (.cells (entE x).toArray 39 (0, 0)) := by rw [← hW7]; exact heap_alloc_new _ _
                    rw [hW7]
                    clear hW7
                    have HO27 := Lib.hid (own_below HQ2.out hb7 (Nat.le_refl _))
                    refine wpList_app1 Try.enElem W7 rfl (.tmp 101) (.tmp 103) rfl w7.heap.size D1 d1 M (by rfl) (own_below HQ1.out hb7 (Nat.le_refl _)) x W4.heap.size 1 (by rfl) hk7 (by have := HML.out; unfold maxLen; omega) (by have := HML.out; omega) ((cur_step1 HB4'.out hb7).size) ?_
                    intro g2 cap w8 ha
                    have HB8 := Lib.hid (show Below w7.heap.size w7 w8 from (cur_step1 HB4'.out hb7).grown ha.grown (cur_step1 HB4'.out hb7).size (own_base HQ1.out))
                    have HO8 := Lib.hid (show OwnL entE 21 39 w7.heap.size w8 (.slice (some ⟨g2, 0, none⟩) (M.length + 1) cap) (M ++ [x]) from ha.one rfl)
                    have HO28 := Lib.hid (own_grown HO27.out ha.grown (fun b hb e => HDD4.out b hb e.symm))
                    have HD8 := Lib.hid (show ∀ b, (Value.slice (some ⟨g3, 0, none⟩) (C ++ [i]).length cap3).ownBlock = some b → (Value.slice (some ⟨g2, 0, none⟩) (M.length + 1) cap).ownBlock ≠ some b from fun b hb e => by
                      rcases ha.at_ with h | h
                      · exact HDD4.out b hb (h.trans e)
                      · exact absurd (own_range HO27.out b hb).2 (by rw [← Option.some.inj e, h]; exact Nat.lt_irrefl _))
                    clear ha hk7 hb7
                    go_wp2_with (fail)
                    refine ⟨⟨k + 1, some ⟨g2, 0, none⟩, cap, (some ⟨g3, 0, none⟩), cap3, by omega, rfl, by rw [HN1.out, List.length_append]; rfl, by rw [HN2.out, List.length_append]; rfl, ?_, ?_, HD8.out, HB8.out⟩, by show ids.length - (k + 1) < ids.length - k; omega⟩
                    · rw [HN1.out]; exact HO8.out
                    · rw [HN2.out]; exact HO28.out
          refine wp_region_held_drew (S := fun w' => EntM w' bx nx (byF B) ∧ EntM w' bp np (byF L) ∧ EntM w' bq nq (byF R)) (by kernel_rfl) ⟨HMX7.out.to HB9.out.drew, HMP7.out.to HB9.out.drew, HMQ7.out.to HB9.out.drew⟩ (fun hS => ?_)
          have HS := Lib.hid hS
          refine wpAnyH_take (i := 0) (v := ?_) rfl (by kernel_rfl) (by kernel_rfl) (by kernel_rfl) (fun _ _ _ h => nomatch h.1) (Or.inl ⟨by rfl, ?_⟩) hS ?_
          rotate_left
          · intro w' _
            go_simp
            try with_reducible rfl
          refine wpAnyH_take (i := 1) (v := ?_) rfl (by kernel_rfl) (by kernel_rfl) (by kernel_rfl) (fun _ _ _ h => nomatch h.1) (Or.inl ⟨by rfl, ?_⟩) hS ?_
          rotate_left
          · intro w' _
            go_simp
            try with_reducible rfl
          refine wpAnyH_take (i := 2) (v := .agg (entE (byF B i)).toArray) rfl (by kernel_rfl) (by kernel_rfl) (by kernel_rfl) (fun _ _ _ h => nomatch h.1) (Or.inl ⟨by rfl, ?_⟩) hS ?_
          · intro w' hw'
            have h1 := EntM.lookup hw'.1 HIW.out
            go_simp
          refine wpAnyH_take (i := 3) (v := ?_) rfl (by kernel_rfl) (by kernel_rfl) (by kernel_rfl) (fun _ _ _ h => nomatch h.1) (Or.inl ⟨by rfl, ?_⟩) hS ?_
          rotate_left
          · intro w' _
            go_simp
            try with_reducible rfl
          refine wpAnyH_take (i := 4) (v := ?_) rfl (by kernel_rfl) (by kernel_rfl) (by kernel_rfl) (fun _ _ _ h => nomatch h.1) (Or.inl ⟨by rfl, ?_⟩) hS ?_
          rotate_left
          · intro w' _
            go_simp
            try with_reducible rfl
          refine wpAnyH_take (i := 5) (v := .agg (entE (byF L i)).toArray) rfl (by kernel_rfl) (by kernel_rfl) (by kernel_rfl) (fun _ _ _ h => nomatch h.1) (Or.inl ⟨by rfl, ?_⟩) hS ?_
          · intro w' hw'
            have h1 := EntM.lookup hw'.2.1 HIW.out
            go_simp
          refine wpAnyH_take (i := 6) (v := ?_) rfl (by kernel_rfl) (by kernel_rfl) (by kernel_rfl) (fun _ _ _ h => nomatch h.1) (Or.inl ⟨by rfl, ?_⟩) hS ?_
          rotate_left
          · intro w' _
            go_simp
            try with_reducible rfl
          refine wpAnyH_take (i := 7) (v := ?_) rfl (by kernel_rfl) (by kernel_rfl) (by kernel_rfl) (fun _ _ _ h => nomatch h.1) (Or.inl ⟨by rfl, ?_⟩) hS ?_
          rotate_left
          · intro w' _
            go_simp
            try with_reducible rfl
          refine wpAnyH_take (i := 8) (v := .agg (entE (byF R i)).toArray) rfl (by kernel_rfl) (by kernel_rfl) (by kernel_rfl) (fun _ _ _ h => nomatch h.1) (Or.inl ⟨by rfl, ?_⟩) hS ?_
          · intro w' hw'
            have h1 := EntM.lookup hw'.2.2 HIW.out
            go_simp
          have hkeep : ∀ (W : World) (o : Obj), (EntM W bx nx (byF B) ∧ EntM W bp np (byF L) ∧ EntM W bq nq (byF R)) → EntM (W.alloc o) bx nx (byF B) ∧ EntM (W.alloc o) bp np (byF L) ∧ EntM (W.alloc o) bq nq (byF R) := fun W o h => ⟨h.1.to (cur_new _ _), h.2.1.to (cur_new _ _), h.2.2.to (cur_new _ _)⟩
          have HS0 := HS
          obtain ⟨W0, hW0⟩ : ∃ y, wr.drew = y := ⟨_, rfl⟩
          rw [hW0] at HS0 ⊢
          have hkeep2 : ∀ (W : World) (g : Nat) (ys : Array Value), W0.heap.size ≤ g → (EntM W bx nx (byF B) ∧ EntM W bp np (byF L) ∧ EntM W bq nq (byF R)) → EntM (W.setRow g ys) bx nx (byF B) ∧ EntM (W.setRow g ys) bp np (byF L) ∧ EntM (W.setRow g ys) bq nq (byF R) := fun W g ys hg h =>
            ⟨h.1.row (by have := HS0.out.1.lt; omega) ys, h.2.1.row (by have := HS0.out.2.1.lt; omega) ys, h.2.2.row (by have := HS0.out.2.2.lt; omega) ys⟩
          have HW0 := Lib.hid (show Below wr.heap.size wr W0 by rw [← hW0]; exact cur_drew wr 1)
          obtain ⟨W3, hW3⟩ : ∃ y, ((W0.alloc (Obj.cells #[.int .i64 0, .int .u8 0, .int .i64 0, .int .i64 0, .int .i64 0, .bool false, .int .i64 0, .int .i64 0, .int .u8 0, .int .u8 0, .int .i64 0, .int .i64 0, .int .i64 0, .bool false, .int .u8 0, .int .i64 0, .int .i64 0, .int .i64 0, .bool false, .int .i64 0, .string { data := #[] }] 39)).alloc (Obj.cells #[.int .i64 0, .int .u8 0, .int .i64 0, .int .i64 0, .int .i64 0, .bool false, .int .i64 0, .int .i64 0, .int .u8 0, .int .u8 0, .int .i64 0, .int .i64 0, .int .i64 0, .bool false, .int .u8 0, .int .i64 0, .int .i64 0, .int .i64 0, .bool false, .int .i64 0, .string { data := #[] }] 39)).alloc (Obj.cells #[.int .i64 0, .int .u8 0, .int .i64 0, .int .i64 0, .int .i64 0, .bool false, .int .i64 0, .int .i64 0, .int .u8 0, .int .u8 0, .int .i64 0, .int .i64 0, .int .i64 0, .bool false, .int .u8 0, .int .i64 0, .int .i64 0, .int .i64 0, .bool false, .int .i64 0, .string { data := #[] }] 39) = y := ⟨_, rfl⟩
          have HZ1 := Lib.hid (show Blk W3 W0.heap.size 39 (entE zEnt) by rw [← hW3]; exact ((Blk.new W0 _ _).to (cur_new _ _)).to (cur_new _ _))
          have HZ2 := Lib.hid (show Blk W3 (W0.heap.size + 1) 39 (entE zEnt) by rw [← hW3]; exact Blk.to (two_new W0 _ _) (cur_new _ _))
          have HZ3 := Lib.hid (show Blk W3 (W0.heap.size + 1 + 1) 39 (entE zEnt) by rw [← hW3]; exact three_new W0 _ _ _)
          have HZB := Lib.hid (show Below wr.heap.size wr W3 by rw [← hW3]; exact cur_step1 (cur_step1 (cur_step1 HW0.out (cur_new _ _)) (cur_new _ _)) (cur_new _ _))
          have HW3 := Lib.hid hW3
          clear hW3
          refine wpAnyH_ready (rs := [9, 10, 11]) (by kernel_rfl) (by simp) ?_
          refine AllReadyH.cons rfl (fun K' hK => ?_) (AllReadyH.cons rfl (fun K' hK => ?_) (AllReadyH.cons rfl (fun K' hK => ?_) (AllReadyH.nil)))
          · go_simp
            refine hK.out _ _ (hkeep _ _ HS0.out) (fun hS' => ?_)
            have HS1 := Lib.hid hS'
            clear hK K' hS'
            refine wpAnyH_ready (rs := [10, 11]) (by kernel_rfl) (by simp) ?_
            refine AllReadyH.cons rfl (fun K' hK => ?_) (AllReadyH.cons rfl (fun K' hK => ?_) (AllReadyH.nil))
            · go_simp
              refine hK.out _ _ (hkeep _ _ HS1.out) (fun hS' => ?_)
              have HS2 := Lib.hid hS'
              clear hK K' hS'
              refine wpAnyH_ready (rs := [11]) (by kernel_rfl) (by simp) ?_
              refine AllReadyH.cons rfl (fun K' hK => ?_) (AllReadyH.nil)
              · go_simp
                refine hK.out _ _ (hkeep _ _ HS2.out) (fun hS' => ?_)
                have HS3 := Lib.hid hS'
                clear hK K' hS'
                have hS3 := HS3.out
                rw [HW3.out] at hS3 ⊢
                refine wpAnyH_ready (rs := [12]) (by kernel_rfl) (by simp) ?_
                refine AllReadyH.cons rfl (fun K' hK => ?_) AllReadyH.nil
                refine step_storeC rfl _ _ 39 rfl _ 39 (entE zEnt) (entE (byF B i)).toArray ent_info (by rfl) (by rfl) ?hb (by rfl) (ent_one _) ?_
                case hb => exact HZ1.out
                refine hK.out _ _ (hkeep2 _ _ _ (by omega) (by first | assumption | exact hS3)) (fun hS'' => ?_)
                clear hK K'
                refine wpAnyH_ready (rs := [13]) (by kernel_rfl) (by simp) ?_
                refine AllReadyH.cons rfl (fun K' hK => ?_) AllReadyH.nil
                refine step_storeC rfl _ _ 39 rfl _ 39 (entE zEnt) (entE (byF L i)).toArray ent_info (by rfl) (by rfl) ?hb (by rfl) (ent_one _) ?_
                case hb => exact HZ2.out.row_other (by omega) _
                refine hK.out _ _ (hkeep2 _ _ _ (by omega) (by first | assumption | exact hS3)) (fun hS'' => ?_)
                clear hK K'
                refine wpAnyH_ready (rs := [14]) (by kernel_rfl) (by simp) ?_
                refine AllReadyH.cons rfl (fun K' hK => ?_) AllReadyH.nil
                refine step_storeC rfl _ _ 39 rfl _ 39 (entE zEnt) (entE (byF R i)).toArray ent_info (by rfl) (by rfl) ?hb (by rfl) (ent_one _) ?_
                case hb => exact (HZ3.out.row_other (by omega) _).row_other (by omega) _
                refine hK.out _ _ (hkeep2 _ _ _ (by omega) (by first | assumption | exact hS3)) (fun hS'' => ?_)
                clear hK K'
                refine wpAnyH_done (by kernel_rfl) ?_ _
                have hsz := HW0.out.size
                refine ⟨rfl, W0.heap.size, W0.heap.size + 1, W0.heap.size + 1 + 1, ?fra, ⟨row_below (row_below (row_below HZB.out ?z1a _) ?z2a _) ?z3a _, ?q1a, ?q2a, ?q3a, ?z4a, ?z5a, ?z6a⟩⟩
                case fra => unfold mrgF; go_simp
                case q1a => exact ((blk_row HZ1.out _).row_other (by omega) _).row_other (by omega) _
                case q2a => exact (blk_row (HZ2.out.row_other (by omega) _) _).row_other (by omega) _
                case q3a => exact blk_row ((HZ3.out.row_other (by omega) _).row_other (by omega) _) _
                all_goals omega
            · go_simp
              refine hK.out _ _ (hkeep _ _ HS1.out) (fun hS' => ?_)
              have HS2 := Lib.hid hS'
              clear hK K' hS'
              refine wpAnyH_ready (rs := [10]) (by kernel_rfl) (by simp) ?_
              refine AllReadyH.cons rfl (fun K' hK => ?_) (AllReadyH.nil)
              · go_simp
                refine hK.out _ _ (hkeep _ _ HS2.out) (fun hS' => ?_)
                have HS3 := Lib.hid hS'
                clear hK K' hS'
                have hS3 := HS3.out
                rw [HW3.out] at hS3 ⊢
                refine wpAnyH_ready (rs := [12]) (by kernel_rfl) (by simp) ?_
                refine AllReadyH.cons rfl (fun K' hK => ?_) AllReadyH.nil
                refine step_storeC rfl _ _ 39 rfl _ 39 (entE zEnt) (entE (byF B i)).toArray ent_info (by rfl) (by rfl) ?hb (by rfl) (ent_one _) ?_
                case hb => exact HZ1.out
                refine hK.out _ _ (hkeep2 _ _ _ (by omega) (by first | assumption | exact hS3)) (fun hS'' => ?_)
                clear hK K'
                refine wpAnyH_ready (rs := [13]) (by kernel_rfl) (by simp) ?_
                refine AllReadyH.cons rfl (fun K' hK => ?_) AllReadyH.nil
                refine step_storeC rfl _ _ 39 rfl _ 39 (entE zEnt) (entE (byF L i)).toArray ent_info (by rfl) (by rfl) ?hb (by rfl) (ent_one _) ?_
                case hb => exact HZ3.out.row_other (by omega) _
                refine hK.out _ _ (hkeep2 _ _ _ (by omega) (by first | assumption | exact hS3)) (fun hS'' => ?_)
                clear hK K'
                refine wpAnyH_ready (rs := [14]) (by kernel_rfl) (by simp) ?_
                refine AllReadyH.cons rfl (fun K' hK => ?_) AllReadyH.nil
                refine step_storeC rfl _ _ 39 rfl _ 39 (entE zEnt) (entE (byF R i)).toArray ent_info (by rfl) (by rfl) ?hb (by rfl) (ent_one _) ?_
                case hb => exact (HZ2.out.row_other (by omega) _).row_other (by omega) _
                refine hK.out _ _ (hkeep2 _ _ _ (by omega) (by first | assumption | exact hS3)) (fun hS'' => ?_)
                clear hK K'
                refine wpAnyH_done (by kernel_rfl) ?_ _
                have hsz := HW0.out.size
                refine ⟨rfl, W0.heap.size, W0.heap.size + 1 + 1, W0.heap.size + 1, ?frb, ⟨row_below (row_below (row_below HZB.out ?z1b _) ?z2b _) ?z3b _, ?q1b, ?q2b, ?q3b, ?z4b, ?z5b, ?z6b⟩⟩
                case frb => unfold mrgF; go_simp
                case q1b => exact ((blk_row HZ1.out _).row_other (by omega) _).row_other (by omega) _
                case q2b => exact (blk_row (HZ3.out.row_other (by omega) _) _).row_other (by omega) _
                case q3b => exact blk_row ((HZ2.out.row_other (by omega) _).row_other (by omega) _) _
                all_goals omega
          · go_simp
            refine hK.out _ _ (hkeep _ _ HS0.out) (fun hS' => ?_)
            have HS1 := Lib.hid hS'
            clear hK K' hS'
            refine wpAnyH_ready (rs := [9, 11]) (by kernel_rfl) (by simp) ?_
            refine AllReadyH.cons rfl (fun K' hK => ?_) (AllReadyH.cons rfl (fun K' hK => ?_) (AllReadyH.nil))
            · go_simp
              refine hK.out _ _ (hkeep _ _ HS1.out) (fun hS' => ?_)
              have HS2 := Lib.hid hS'
              clear hK K' hS'
              refine wpAnyH_ready (rs := [11]) (by kernel_rfl) (by simp) ?_
              refine AllReadyH.cons rfl (fun K' hK => ?_) (AllReadyH.nil)
              · go_simp
                refine hK.out _ _ (hkeep _ _ HS2.out) (fun hS' => ?_)
                have HS3 := Lib.hid hS'
                clear hK K' hS'
                have hS3 := HS3.out
                rw [HW3.out] at hS3 ⊢
                refine wpAnyH_ready (rs := [12]) (by kernel_rfl) (by simp) ?_
                refine AllReadyH.cons rfl (fun K' hK => ?_) AllReadyH.nil
                refine step_storeC rfl _ _ 39 rfl _ 39 (entE zEnt) (entE (byF B i)).toArray ent_info (by rfl) (by rfl) ?hb (by rfl) (ent_one _) ?_
                case hb => exact HZ2.out
                refine hK.out _ _ (hkeep2 _ _ _ (by omega) (by first | assumption | exact hS3)) (fun hS'' => ?_)
                clear hK K'
                refine wpAnyH_ready (rs := [13]) (by kernel_rfl) (by simp) ?_
                refine AllReadyH.cons rfl (fun K' hK => ?_) AllReadyH.nil
                refine step_storeC rfl _ _ 39 rfl _ 39 (entE zEnt) (entE (byF L i)).toArray ent_info (by rfl) (by rfl) ?hb (by rfl) (ent_one _) ?_
                case hb => exact HZ1.out.row_other (by omega) _
                refine hK.out _ _ (hkeep2 _ _ _ (by omega) (by first | assumption | exact hS3)) (fun hS'' => ?_)
                clear hK K'
                refine wpAnyH_ready (rs := [14]) (by kernel_rfl) (by simp) ?_
                refine AllReadyH.cons rfl (fun K' hK => ?_) AllReadyH.nil
                refine step_storeC rfl _ _ 39 rfl _ 39 (entE zEnt) (entE (byF R i)).toArray ent_info (by rfl) (by rfl) ?hb (by rfl) (ent_one _) ?_
                case hb => exact (HZ3.out.row_other (by omega) _).row_other (by omega) _
                refine hK.out _ _ (hkeep2 _ _ _ (by omega) (by first | assumption | exact hS3)) (fun hS'' => ?_)
                clear hK K'
                refine wpAnyH_done (by kernel_rfl) ?_ _
                have hsz := HW0.out.size
                refine ⟨rfl, W0.heap.size + 1, W0.heap.size, W0.heap.size + 1 + 1, ?frc, ⟨row_below (row_below (row_below HZB.out ?z1c _) ?z2c _) ?z3c _, ?q1c, ?q2c, ?q3c, ?z4c, ?z5c, ?z6c⟩⟩
                case frc => unfold mrgF; go_simp
                case q1c => exact ((blk_row HZ2.out _).row_other (by omega) _).row_other (by omega) _
                case q2c => exact (blk_row (HZ1.out.row_other (by omega) _) _).row_other (by omega) _
                case q3c => exact blk_row ((HZ3.out.row_other (by omega) _).row_other (by omega) _) _
                all_goals omega
            · go_simp
              refine hK.out _ _ (hkeep _ _ HS1.out) (fun hS' => ?_)
              have HS2 := Lib.hid hS'
              clear hK K' hS'
              refine wpAnyH_ready (rs := [9]) (by kernel_rfl) (by simp) ?_
              refine AllReadyH.cons rfl (fun K' hK => ?_) (AllReadyH.nil)
              · go_simp
                refine hK.out _ _ (hkeep _ _ HS2.out) (fun hS' => ?_)
                have HS3 := Lib.hid hS'
                clear hK K' hS'
                have hS3 := HS3.out
                rw [HW3.out] at hS3 ⊢
                refine wpAnyH_ready (rs := [12]) (by kernel_rfl) (by simp) ?_
                refine AllReadyH.cons rfl (fun K' hK => ?_) AllReadyH.nil
                refine step_storeC rfl _ _ 39 rfl _ 39 (entE zEnt) (entE (byF B i)).toArray ent_info (by rfl) (by rfl) ?hb (by rfl) (ent_one _) ?_
                case hb => exact HZ3.out
                refine hK.out _ _ (hkeep2 _ _ _ (by omega) (by first | assumption | exact hS3)) (fun hS'' => ?_)
                clear hK K'
                refine wpAnyH_ready (rs := [13]) (by kernel_rfl) (by simp) ?_
                refine AllReadyH.cons rfl (fun K' hK => ?_) AllReadyH.nil
                refine step_storeC rfl _ _ 39 rfl _ 39 (entE zEnt) (entE (byF L i)).toArray ent_info (by rfl) (by rfl) ?hb (by rfl) (ent_one _) ?_
                case hb => exact HZ1.out.row_other (by omega) _
                refine hK.out _ _ (hkeep2 _ _ _ (by omega) (by first | assumption | exact hS3)) (fun hS'' => ?_)
                clear hK K'
                refine wpAnyH_ready (rs := [14]) (by kernel_rfl) (by simp) ?_
                refine AllReadyH.cons rfl (fun K' hK => ?_) AllReadyH.nil
                refine step_storeC rfl _ _ 39 rfl _ 39 (entE zEnt) (entE (byF R i)).toArray ent_info (by rfl) (by rfl) ?hb (by rfl) (ent_one _) ?_
                case hb => exact (HZ2.out.row_other (by omega) _).row_other (by omega) _
                refine hK.out _ _ (hkeep2 _ _ _ (by omega) (by first | assumption | exact hS3)) (fun hS'' => ?_)
                clear hK K'
                refine wpAnyH_done (by kernel_rfl) ?_ _
                have hsz := HW0.out.size
                refine ⟨rfl, W0.heap.size + 1 + 1, W0.heap.size, W0.heap.size + 1, ?frd, ⟨row_below (row_below (row_below HZB.out ?z1d _) ?z2d _) ?z3d _, ?q1d, ?q2d, ?q3d, ?z4d, ?z5d, ?z6d⟩⟩
                case frd => unfold mrgF; go_simp
                case q1d => exact ((blk_row HZ3.out _).row_other (by omega) _).row_other (by omega) _
                case q2d => exact (blk_row (HZ1.out.row_other (by omega) _) _).row_other (by omega) _
                case q3d => exact blk_row ((HZ2.out.row_other (by omega) _).row_other (by omega) _) _
                all_goals omega
          · go_simp
            refine hK.out _ _ (hkeep _ _ HS0.out) (fun hS' => ?_)
            have HS1 := Lib.hid hS'
            clear hK K' hS'
            refine wpAnyH_ready (rs := [9, 10]) (by kernel_rfl) (by simp) ?_
            refine AllReadyH.cons rfl (fun K' hK => ?_) (AllReadyH.cons rfl (fun K' hK => ?_) (AllReadyH.nil))
            · go_simp
              refine hK.out _ _ (hkeep _ _ HS1.out) (fun hS' => ?_)
              have HS2 := Lib.hid hS'
              clear hK K' hS'
              refine wpAnyH_ready (rs := [10]) (by kernel_rfl) (by simp) ?_
              refine AllReadyH.cons rfl (fun K' hK => ?_) (AllReadyH.nil)
              · go_simp
                refine hK.out _ _ (hkeep _ _ HS2.out) (fun hS' => ?_)
                have HS3 := Lib.hid hS'
                clear hK K' hS'
                have hS3 := HS3.out
                rw [HW3.out] at hS3 ⊢
                refine wpAnyH_ready (rs := [12]) (by kernel_rfl) (by simp) ?_
                refine AllReadyH.cons rfl (fun K' hK => ?_) AllReadyH.nil
                refine step_storeC rfl _ _ 39 rfl _ 39 (entE zEnt) (entE (byF B i)).toArray ent_info (by rfl) (by rfl) ?hb (by rfl) (ent_one _) ?_
                case hb => exact HZ2.out
                refine hK.out _ _ (hkeep2 _ _ _ (by omega) (by first | assumption | exact hS3)) (fun hS'' => ?_)
                clear hK K'
                refine wpAnyH_ready (rs := [13]) (by kernel_rfl) (by simp) ?_
                refine AllReadyH.cons rfl (fun K' hK => ?_) AllReadyH.nil
                refine step_storeC rfl _ _ 39 rfl _ 39 (entE zEnt) (entE (byF L i)).toArray ent_info (by rfl) (by rfl) ?hb (by rfl) (ent_one _) ?_
                case hb => exact HZ3.out.row_other (by omega) _
                refine hK.out _ _ (hkeep2 _ _ _ (by omega) (by first | assumption | exact hS3)) (fun hS'' => ?_)
                clear hK K'
                refine wpAnyH_ready (rs := [14]) (by kernel_rfl) (by simp) ?_
                refine AllReadyH.cons rfl (fun K' hK => ?_) AllReadyH.nil
                refine step_storeC rfl _ _ 39 rfl _ 39 (entE zEnt) (entE (byF R i)).toArray ent_info (by rfl) (by rfl) ?hb (by rfl) (ent_one _) ?_
                case hb => exact (HZ1.out.row_other (by omega) _).row_other (by omega) _
                refine hK.out _ _ (hkeep2 _ _ _ (by omega) (by first | assumption | exact hS3)) (fun hS'' => ?_)
                clear hK K'
                refine wpAnyH_done (by kernel_rfl) ?_ _
                have hsz := HW0.out.size
                refine ⟨rfl, W0.heap.size + 1, W0.heap.size + 1 + 1, W0.heap.size, ?fre, ⟨row_below (row_below (row_below HZB.out ?z1e _) ?z2e _) ?z3e _, ?q1e, ?q2e, ?q3e, ?z4e, ?z5e, ?z6e⟩⟩
                case fre => unfold mrgF; go_simp
                case q1e => exact ((blk_row HZ2.out _).row_other (by omega) _).row_other (by omega) _
                case q2e => exact (blk_row (HZ3.out.row_other (by omega) _) _).row_other (by omega) _
                case q3e => exact blk_row ((HZ1.out.row_other (by omega) _).row_other (by omega) _) _
                all_goals omega
            · go_simp
              refine hK.out _ _ (hkeep _ _ HS1.out) (fun hS' => ?_)
              have HS2 := Lib.hid hS'
              clear hK K' hS'
              refine wpAnyH_ready (rs := [9]) (by kernel_rfl) (by simp) ?_
              refine AllReadyH.cons rfl (fun K' hK => ?_) (AllReadyH.nil)
              · go_simp
                refine hK.out _ _ (hkeep _ _ HS2.out) (fun hS' => ?_)
                have HS3 := Lib.hid hS'
                clear hK K' hS'
                have hS3 := HS3.out
                rw [HW3.out] at hS3 ⊢
                refine wpAnyH_ready (rs := [12]) (by kernel_rfl) (by simp) ?_
                refine AllReadyH.cons rfl (fun K' hK => ?_) AllReadyH.nil
                refine step_storeC rfl _ _ 39 rfl _ 39 (entE zEnt) (entE (byF B i)).toArray ent_info (by rfl) (by rfl) ?hb (by rfl) (ent_one _) ?_
                case hb => exact HZ3.out
                refine hK.out _ _ (hkeep2 _ _ _ (by omega) (by first | assumption | exact hS3)) (fun hS'' => ?_)
                clear hK K'
                refine wpAnyH_ready (rs := [13]) (by kernel_rfl) (by simp) ?_
                refine AllReadyH.cons rfl (fun K' hK => ?_) AllReadyH.nil
                refine step_storeC rfl _ _ 39 rfl _ 39 (entE zEnt) (entE (byF L i)).toArray ent_info (by rfl) (by rfl) ?hb (by rfl) (ent_one _) ?_
                case hb => exact HZ2.out.row_other (by omega) _
                refine hK.out _ _ (hkeep2 _ _ _ (by omega) (by first | assumption | exact hS3)) (fun hS'' => ?_)
                clear hK K'
                refine wpAnyH_ready (rs := [14]) (by kernel_rfl) (by simp) ?_
                refine AllReadyH.cons rfl (fun K' hK => ?_) AllReadyH.nil
                refine step_storeC rfl _ _ 39 rfl _ 39 (entE zEnt) (entE (byF R i)).toArray ent_info (by rfl) (by rfl) ?hb (by rfl) (ent_one _) ?_
                case hb => exact (HZ1.out.row_other (by omega) _).row_other (by omega) _
                refine hK.out _ _ (hkeep2 _ _ _ (by omega) (by first | assumption | exact hS3)) (fun hS'' => ?_)
                clear hK K'
                refine wpAnyH_done (by kernel_rfl) ?_ _
                have hsz := HW0.out.size
                refine ⟨rfl, W0.heap.size + 1 + 1, W0.heap.size + 1, W0.heap.size, ?frf, ⟨row_below (row_below (row_below HZB.out ?z1f _) ?z2f _) ?z3f _, ?q1f, ?q2f, ?q3f, ?z4f, ?z5f, ?z6f⟩⟩
                case frf => unfold mrgF; go_simp
                case q1f => exact ((blk_row HZ3.out _).row_other (by omega) _).row_other (by omega) _
                case q2f => exact (blk_row (HZ2.out.row_other (by omega) _) _).row_other (by omega) _
                case q3f => exact blk_row ((HZ1.out.row_other (by omega) _).row_other (by omega) _) _
                all_goals omega
        · have HTK := Lib.hid (show ids.take k = ids from by rw [show k = ids.length by omega]; exact List.take_length)
          rw [HTK.out] at HD1 HD2 ⊢
          have HE1 := Lib.hid (show OwnL entE 21 39 w.heap.size wr (.slice D1 (mOut B L R ids).length d1) (mOut B L R (idsU B L R)) by rw [HIU.out]; exact own_mono HD1.out HB7.out.size)
          have HE2 := Lib.hid (show OwnL inE 1 42 w.heap.size wr (.slice D2 (mCl B L R ids).length d2) (mCl B L R (idsU B L R)) by rw [HIU.out]; exact own_mono HD2.out HB7.out.size)
          have HEB := Lib.hid (show Below w.heap.size w wr from cur_step1 HB7.out HB9.out)
          have HE0 := Lib.hid (flE_zero HOK4.out)
          have HML := Lib.hid (Nat.le_trans (show (mOut B L R ids).length ≤ ids.length from List.length_filterMap_le _ _) HCL.out)
          clear HD1 HD2 HDD HTK
          generalize (mOut B L R ids).length = n1 at HE1 HML ⊢
          generalize (mCl B L R ids).length = n2 at HE2 ⊢
          have hn1 := HML.out
          go_wp2_with (fail)
          go_ret3
          exact HGOOD.out HE0.out _ _ _ HE1.out HE2.out HEB.out
end Go.Proofs.Ytimmlffgokgekaa
