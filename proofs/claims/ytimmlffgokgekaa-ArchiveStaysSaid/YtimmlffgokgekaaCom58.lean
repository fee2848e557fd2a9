/-
  Chapter 58: Commit of the program.
-/
import Derived.Test.YtimmlffgokgekaaVrs58
import Derived.Test.YtimmlffgokgekaaMrg
set_option linter.unusedSimpArgs false
set_option linter.unusedVariables false
namespace Go.Proofs.Ytimmlffgokgekaa
open Go.RowKit
set_option maxRecDepth 100000
set_option maxHeartbeats 20000000
/-- The error of a commit, the file that it lays down, its clashes. -/
def comE (n : Nat) (base : Int) (f : List Ent) : Int := if chkA f ≠ 0 then chkA f else if hasB n base = false ∧ ¬ (base = 0 ∧ n = 0) then 6 else if 64 ≤ n then 9 else 0
def comF (vs : List Vr) (base : Int) (f : List Ent) : List Ent := if base = vs.length then f else mOut (fileV vs base) (fileV vs vs.length) f (idsU (fileV vs base) (fileV vs vs.length) f)
def comC (vs : List Vr) (base : Int) (f : List Ent) : List Int := if base = vs.length then [] else mCl (fileV vs base) (fileV vs vs.length) f (idsU (fileV vs base) (fileV vs vs.length) f)
theorem fileV_at {vs : List Vr} {k : Int} (h : hasB vs.length k = true) : ∃ (v : Vr) (j : Nat), vs[j]? = some v ∧ k = (j : Int) + 1 ∧ fileV vs k = v.l := by
  have hk : 1 ≤ k ∧ k ≤ (vs.length : Int) := by unfold hasB at h; simpa using h
  obtain ⟨v, hv⟩ : ∃ v, vs[k.toNat - 1]? = some v := ⟨_, List.getElem?_eq_getElem (by omega)⟩
  exact ⟨v, k.toNat - 1, hv, by omega, by unfold fileV; rw [if_pos h, hv]; rfl⟩
theorem wrap_ini {x : Int} (h1 : -9223372036854775808 ≤ x) (h2 : x ≤ 9223372036854775807) : IntKind.i64.wrap x = x := by
  first | (simp [go_sem]; omega) | (simp [IntKind.wrap, IntKind.bits, IntKind.signed]; omega) | (unfold IntKind.wrap; simp [IntKind.bits, IntKind.signed]; omega)
theorem commit_e (B0 bA : Nat) (V : Option Addr) (c : Nat) (vs : List Vr) (base : Int) (A : Option Addr) (cf : Nat) (f : List Ent) (w : World) (hB0 : B0 ≤ w.heap.size) (hn : vs.length ≤ 64) (hf12 : f.length ≤ 12) (hsc : ∀ x ∈ f, x.sc.size ≤ 20) (hrd : Rd entE 21 w w.heap.size A f) (hA : ArcS B0 bA V c vs w)
    (hls : ∀ v ∈ vs, GoodA v.l ∧ (∀ x ∈ v.l, x.sc.size ≤ 20)) (hlen : ∀ k, hasB vs.length k = true → (fileV vs k).length + (fileV vs vs.length).length + f.length ≤ 400)
    (RR : Ending → World → Prop) (hbad : comE vs.length base f ≠ 0 → ∀ w', Below w.heap.size w w' → RR (.returned (.tuple #[.int .i64 0, .slice none 0 0, .int .i64 (comE vs.length base f)])) w')
    (hgood : comE vs.length base f = 0 → ∀ w' V' c' v2 a' c2, ArcS B0 bA V' c' (vs ++ [⟨base, a', c2, comF vs base f⟩]) w' → OwnL inE 1 42 w.heap.size w' v2 (comC vs base f) →
      Far (bA :: (Value.slice V vs.length c).ownBlock.toList) w w' → (∀ b, (Value.slice V' (vs.length + 1) c').ownBlock = some b → (Value.slice V vs.length c).ownBlock = some b ∨ w.heap.size ≤ b) → (∀ b o, a' = some ⟨b, o, none⟩ → w.heap.size ≤ b) → RR (.returned (.tuple #[.int .i64 ((vs.length : Int) + 1), v2, .int .i64 0])) w') :
    Calls Try.prog 25 #[.pointer (some ⟨bA, 0, none⟩), .int .i64 base, .slice A f.length cf] w RR := by
  have HSC := Lib.hid hsc
  have HRD := Lib.hid hrd
  have HA := Lib.hid hA
  have HLS := Lib.hid hls
  have HLEN := Lib.hid hlen
  have HBAD := Lib.hid hbad
  have HGOOD := Lib.hid hgood
  clear hsc hrd hA hls hlen hbad hgood
  obtain ⟨ce, hce⟩ : ∃ ce, comE vs.length base f = ce := ⟨_, rfl⟩
  rw [hce] at HBAD HGOOD
  have HCE := Lib.hid hce
  clear hce
  go_enter Try.func25, Try.ntmps25
  go_wp2_with (fail)
  refine (chka_p f A cf w (by omega) (fun x hx => Nat.le_trans (HSC.out x hx) (by decide)) HRD.out).mono ?_
  rintro e w1 ⟨rfl, hb1⟩
  have HB1 := Lib.hid hb1
  clear hb1
  by_cases hc : chkA f = 0
  · rw [hc]
    have HCF := Lib.hid hc
    clear hc
    go_wp2_with (fail)
    refine (head_p w1 bA V vs.length c (HA.out.blk.to HB1.out)).mono ?_
    rintro e w2 ⟨rfl, hb2⟩
    have HB2 := Lib.hid (cur_step1 HB1.out hb2)
    clear hb2
    go_wp2_with (fail)
    refine (has_v w2 bA V vs.length c base (HA.out.blk.to HB2.out)).mono ?_
    rintro e w3 ⟨rfl, hb3⟩
    have HB3 := Lib.hid (cur_step1 HB2.out hb3)
    clear hb3
    obtain ⟨hh, hhh⟩ : ∃ hh, hasB vs.length base = hh := ⟨_, rfl⟩
    have HH := Lib.hid hhh
    rw [hhh]
    clear hhh
    by_cases hno : hh = false ∧ ¬ (base = 0 ∧ vs.length = 0)
    · have HE := Lib.hid (show ce = 6 by rw [← HCE.out]; unfold comE; rw [if_neg (by rw [HCF.out]; simp), HH.out, if_pos hno])
      obtain ⟨h1, h2⟩ := hno
      subst h1
      have HR := Lib.hid (HBAD.out (by rw [HE.out]; decide) w3 HB3.out)
      by_cases hb0 : base = 0
      · subst hb0
        have hn0 : ((vs.length : Int) != 0) = true := by
          have h3 : (vs.length : Int) ≠ 0 := fun h => h2 ⟨rfl, by omega⟩
          simpa using h3
        clear h2
        go_wp2_with (fail)
        go_ret3
        have := HR.out
        rw [HE.out] at this
        exact this
      · have hn0 : (base != 0) = true := by simpa using hb0
        clear h2 hb0
        go_wp2_with (fail)
        go_ret3
        have := HR.out
        rw [HE.out] at this
        exact this
    · by_cases h64 : 64 ≤ vs.length
      · have HE := Lib.hid (show ce = 9 by rw [← HCE.out]; unfold comE; rw [if_neg (by rw [HCF.out]; simp), HH.out, if_neg hno, if_pos h64])
        have HR := Lib.hid (HBAD.out (by rw [HE.out]; decide) w3 HB3.out)
        have hh1 : hh = true := by
          cases hh with
          | true => rfl
          | false => exact (hno ⟨rfl, fun hx => by omega⟩).elim
        subst hh1
        have h64i : (64 : Int) ≤ vs.length := by omega
        clear hno
        go_wp2_with (fail)
        go_ret3
        have := HR.out
        rw [HE.out] at this
        exact this
      · have HE := Lib.hid (show ce = 0 by rw [← HCE.out]; unfold comE; rw [if_neg (by rw [HCF.out]; simp), HH.out, if_neg hno, if_neg h64])
        have hn64 : ¬ (64 : Int) ≤ vs.length := by omega
        have h64n : vs.length < 64 := by omega
        by_cases hbe : base = (vs.length : Int)
        · have HCF2 := Lib.hid (show comF vs base f = f ∧ comC vs base f = [] by unfold comF comC; rw [if_pos hbe, if_pos hbe]; exact ⟨rfl, rfl⟩)
          have hbn : (base != (vs.length : Int)) = false := by simpa using hbe
          have HBE := Lib.hid hbe
          clear hbe
          have HNO := Lib.hid hno
          clear hno h64
          have key : ∀ (u : World), Below w.heap.size w u → True := fun _ _ => trivial
          clear key
          cases hh
          · have hb00 : base = 0 ∧ vs.length = 0 := by
              by_cases hx : base = 0 ∧ vs.length = 0
              · exact hx
              · exact (HNO.out ⟨rfl, hx⟩).elim
            have hbz : (base != 0) = false := by simpa using hb00.1
            have hnz : ((vs.length : Int) != 0) = false := by simp [hb00.2]
            clear hb00
            go_wp2_with (fail)
            refine (clone_p f A cf w3 (by omega) (HRD.out.to HB3.out)).mono ?_
            rintro e w4 ⟨⟨v, rfl, ho⟩, hb4⟩
            obtain ⟨A4, c4, rfl, hr4, hxx⟩ := OwnL.rd entE_len ho
            have HR4 := Lib.hid hr4
            have HO4 := Lib.hid (own_range (own_mono ho HB3.out.size))
            have HB4 := Lib.hid (cur_step1 HB3.out hb4)
            clear hxx hr4 ho hb4
            go_upto_region 18 with (fail)
            have HAU := Lib.hid (HA.out.to HB4.out)
            have a0 : w4.cell? ⟨bA, 0, none⟩ = some (.slice V vs.length c) := HAU.out.blk.cell 0
            have hlA := HAU.out.blk.lt
            refine wp_region_lit ?_
            (refine wpList_step (fun K hK => ?_); go_simp; refine hK _ _ ?_; clear hK K)
            (refine wpList_step (fun K hK => ?_); go_simp; refine hK _ _ ?_; clear hK K)
            (refine wpList_step (fun K hK => ?_); go_simp; refine hK _ _ ?_; clear hK K)
            (refine wpList_step (fun K hK => ?_); go_simp; refine hK _ _ ?_; clear hK K)
            (refine wpList_step (fun K hK => ?_); go_simp; refine hK _ _ ?_; clear hK K)
            (refine wpList_step (fun K hK => ?_); go_simp; refine hK _ _ ?_; clear hK K)
            (refine wpList_step (fun K hK => ?_); go_simp; refine hK _ _ ?_; clear hK K)
            (refine wpList_step (fun K hK => ?_); go_simp; refine hK _ _ ?_; clear hK K)
            refine wpList_buildE Try.verElem rfl 1 _ rfl [⟨base, A4, c4, f⟩] rfl (by decide) (by decide) (by rfl) ?_
            rw [show [(⟨base, A4, c4, f⟩ : Vr)].flatMap verE = verE ⟨base, A4, c4, f⟩ from List.append_nil _]
            obtain ⟨W5, hW5⟩ : ∃ y, w4.alloc (.cells (verE ⟨base, A4, c4, f⟩).toArray 95) = y := ⟨_, rfl⟩
            have hb5 : Below w4.heap.size w4 W5 := by rw [← hW5]; exact cur_new _ _
            have hk5 : W5.heap[w4.heap.size]? = some (.cells (verE ⟨base, A4, c4, f⟩).toArray 95 (0, 0)) := by rw [← hW5]; exact heap_alloc_new _ _
            rw [hW5]
            clear hW5
            refine wpList_app1 Try.verElem W5 rfl (.tmp 73) (.tmp 77) rfl B0 V c vs (by rfl) (own_below HAU.out.own hb5 (Nat.le_refl _)) ⟨base, A4, c4, f⟩ w4.heap.size 1 (by rfl) hk5 (by unfold maxLen; omega) (by omega) (Nat.le_trans hB0 (cur_step1 HB4.out hb5).size) ?_
            intro g cap w8 ha
            obtain ⟨hAN, hFN, hgN⟩ := HAU.out.add hb5 HR4.out (fun b o e => by
              have h1 := HO4.out b (by rw [show A4 = some ⟨b, o, none⟩ from e]; rfl)
              have h2 := HA.out.blk.lt
              refine ⟨h1.2, by omega, fun e2 => ?_⟩
              have h3 := (own_range HA.out.own b e2).2
              omega) ha
            have HAN := Lib.hid hAN
            have HFN := Lib.hid (show Far (bA :: (Value.slice V vs.length c).ownBlock.toList) w _ from (Far.of HB4.out).trans hFN (fun x hx => Or.inl hx))
            have HGN := Lib.hid hgN
            have HFU := Lib.hid hFN
            have hb8 : Blk w8 bA 92 [.slice V vs.length c] := (HAU.out.to hb5).blk.far (bs := (Value.slice V vs.length c).ownBlock.toList) (Far.grown ha.grown (fun b hb => by rw [hb]; simp)) (fun hx => by
              cases ho : (Value.slice V vs.length c).ownBlock with
              | none => rw [ho] at hx; simp at hx
              | some y => rw [ho] at hx; simp at hx; exact HAU.out.ne y ho hx.symm)
            have a8 : w8.cell? ⟨bA, 0, none⟩ = some (.slice V vs.length c) := hb8.cell 0
            have f8 : w8.frozen? ⟨bA, 0, none⟩ = false := hb8.frozen 0
            have l8 := hb8.lt
            clear ha hk5 hb5 hAN hFN hgN hb8
            (refine wpList_step (fun K hK => ?_); go_simp; refine hK _ _ ?_; clear hK K)
            (refine wpList_step (fun K hK => ?_); go_simp; refine hK _ _ ?_; clear hK K)
            (refine wpList_step (fun K hK => ?_); go_simp; refine hK _ _ ?_; clear hK K)
            have HGOAL := Lib.hid HE.out
            go_wp2_with (fail)
            go_ret3
            have hres := HGOOD.out HE.out _ _ _ (.slice none 0 0) A4 c4 (by rw [HCF2.out.1]; exact HAN.out) (by rw [HCF2.out.2]; exact World.ownsRow_nil _ _ _ _) HFN.out (fun b hb => by
              rcases HGN.out with e1 | e1
              · exact Or.inl (by rw [e1]; exact hb)
              · have hb' : g = b := Option.some.inj (show some g = some b from hb)
                exact Or.inr (by have := HB4.out.size; omega)) (fun b o e => by
              have h1 := HO4.out b (by rw [show A4 = some ⟨b, o, none⟩ from e]; rfl)
              omega)
            exact hres
          · go_wp2_with (fail)
            refine (clone_p f A cf w3 (by omega) (HRD.out.to HB3.out)).mono ?_
            rintro e w4 ⟨⟨v, rfl, ho⟩, hb4⟩
            obtain ⟨A4, c4, rfl, hr4, hxx⟩ := OwnL.rd entE_len ho
            have HR4 := Lib.hid hr4
            have HO4 := Lib.hid (own_range (own_mono ho HB3.out.size))
            have HB4 := Lib.hid (cur_step1 HB3.out hb4)
            clear hxx hr4 ho hb4
            go_upto_region 18 with (fail)
            have HAU := Lib.hid (HA.out.to HB4.out)
            have a0 : w4.cell? ⟨bA, 0, none⟩ = some (.slice V vs.length c) := HAU.out.blk.cell 0
            have hlA := HAU.out.blk.lt
            refine wp_region_lit ?_
            (refine wpList_step (fun K hK => ?_); go_simp; refine hK _ _ ?_; clear hK K)
            (refine wpList_step (fun K hK => ?_); go_simp; refine hK _ _ ?_; clear hK K)
            (refine wpList_step (fun K hK => ?_); go_simp; refine hK _ _ ?_; clear hK K)
            (refine wpList_step (fun K hK => ?_); go_simp; refine hK _ _ ?_; clear hK K)
            (refine wpList_step (fun K hK => ?_); go_simp; refine hK _ _ ?_; clear hK K)
            (refine wpList_step (fun K hK => ?_); go_simp; refine hK _ _ ?_; clear hK K)
            (refine wpList_step (fun K hK => ?_); go_simp; refine hK _ _ ?_; clear hK K)
            (refine wpList_step (fun K hK => ?_); go_simp; refine hK _ _ ?_; clear hK K)
            refine wpList_buildE Try.verElem rfl 1 _ rfl [⟨base, A4, c4, f⟩] rfl (by decide) (by decide) (by rfl) ?_
            rw [show [(⟨base, A4, c4, f⟩ : Vr)].flatMap verE = verE ⟨base, A4, c4, f⟩ from List.append_nil _]
            obtain ⟨W5, hW5⟩ : ∃ y, w4.alloc (.cells (verE ⟨base, A4, c4, f⟩).toArray 95) = y := ⟨_, rfl⟩
            have hb5 : Below w4.heap.size w4 W5 := by rw [← hW5]; exact cur_new _ _
            have hk5 : W5.heap[w4.heap.size]? = some (.cells (verE ⟨base, A4, c4, f⟩).toArray 95 (0, 0)) := by rw [← hW5]; exact heap_alloc_new _ _
            rw [hW5]
            clear hW5
            refine wpList_app1 Try.verElem W5 rfl (.tmp 73) (.tmp 77) rfl B0 V c vs (by rfl) (own_below HAU.out.own hb5 (Nat.le_refl _)) ⟨base, A4, c4, f⟩ w4.heap.size 1 (by rfl) hk5 (by unfold maxLen; omega) (by omega) (Nat.le_trans hB0 (cur_step1 HB4.out hb5).size) ?_
            intro g cap w8 ha
            obtain ⟨hAN, hFN, hgN⟩ := HAU.out.add hb5 HR4.out (fun b o e => by
              have h1 := HO4.out b (by rw [show A4 = some ⟨b, o, none⟩ from e]; rfl)
              have h2 := HA.out.blk.lt
              refine ⟨h1.2, by omega, fun e2 => ?_⟩
              have h3 := (own_range HA.out.own b e2).2
              omega) ha
            have HAN := Lib.hid hAN
            have HFN := Lib.hid (show Far (bA :: (Value.slice V vs.length c).ownBlock.toList) w _ from (Far.of HB4.out).trans hFN (fun x hx => Or.inl hx))
            have HGN := Lib.hid hgN
            have HFU := Lib.hid hFN
            have hb8 : Blk w8 bA 92 [.slice V vs.length c] := (HAU.out.to hb5).blk.far (bs := (Value.slice V vs.length c).ownBlock.toList) (Far.grown ha.grown (fun b hb => by rw [hb]; simp)) (fun hx => by
              cases ho : (Value.slice V vs.length c).ownBlock with
              | none => rw [ho] at hx; simp at hx
              | some y => rw [ho] at hx; simp at hx; exact HAU.out.ne y ho hx.symm)
            have a8 : w8.cell? ⟨bA, 0, none⟩ = some (.slice V vs.length c) := hb8.cell 0
            have f8 : w8.frozen? ⟨bA, 0, none⟩ = false := hb8.frozen 0
            have l8 := hb8.lt
            clear ha hk5 hb5 hAN hFN hgN hb8
            (refine wpList_step (fun K hK => ?_); go_simp; refine hK _ _ ?_; clear hK K)
            (refine wpList_step (fun K hK => ?_); go_simp; refine hK _ _ ?_; clear hK K)
            (refine wpList_step (fun K hK => ?_); go_simp; refine hK _ _ ?_; clear hK K)
            have HGOAL := Lib.hid HE.out
            go_wp2_with (fail)
            go_ret3
            have hres := HGOOD.out HE.out _ _ _ (.slice none 0 0) A4 c4 (by rw [HCF2.out.1]; exact HAN.out) (by rw [HCF2.out.2]; exact World.ownsRow_nil _ _ _ _) HFN.out (fun b hb => by
              rcases HGN.out with e1 | e1
              · exact Or.inl (by rw [e1]; exact hb)
              · have hb' : g = b := Option.some.inj (show some g = some b from hb)
                exact Or.inr (by have := HB4.out.size; omega)) (fun b o e => by
              have h1 := HO4.out b (by rw [show A4 = some ⟨b, o, none⟩ from e]; rfl)
              omega)
            exact hres
        · have hbn : (base != (vs.length : Int)) = true := by simpa using hbe
          have hht : hh = true := by
            cases hh with
            | true => rfl
            | false =>
              by_cases hx : base = 0 ∧ vs.length = 0
              · exact (hbe (by omega)).elim
              · exact (hno ⟨rfl, hx⟩).elim
          subst hht
          have HBE := Lib.hid hbe
          clear hbe hno h64
          go_wp2_with (fail)
          refine (clone_p f A cf w3 (by omega) (HRD.out.to HB3.out)).mono ?_
          rintro e w4 ⟨⟨v4, rfl, _⟩, hb4⟩
          have HB4 := Lib.hid (cur_step1 HB3.out hb4)
          clear hb4
          obtain ⟨vb, jb, hvb, hjb, hfb⟩ := fileV_at HH.out
          have hnn : hasB vs.length (vs.length : Int) = true := by
            have := HH.out
            unfold hasB at this ⊢
            simp at this ⊢
            omega
          obtain ⟨vh, jh, hvh, hjh, hfh⟩ := fileV_at hnn
          have HAU := Lib.hid (HA.out.to HB4.out)
          obtain ⟨g, hVg, hgl, _, fb1⟩ := HAU.out.ver hvb
          obtain ⟨g', hVg', _, _, fh1⟩ := HAU.out.ver hvh
          have hgg : g' = g := by rw [hVg] at hVg'; injection hVg' with h; injection h with h; exact h.symm
          subst hgg
          subst hVg
          clear hVg'
          have hjbl : jb < vs.length := (List.getElem?_eq_some_iff.1 hvb).1
          have hjhl : jh < vs.length := (List.getElem?_eq_some_iff.1 hvh).1
          have hvbm := List.mem_of_getElem? hvb
          have hvhm := List.mem_of_getElem? hvh
          have HBG := Lib.hid (HLS.out vb hvbm)
          have HHG := Lib.hid (HLS.out vh hvhm)
          have HLN := Lib.hid (show vb.l.length + vh.l.length + f.length ≤ 400 by have := HLEN.out base HH.out; rw [hfb, hfh] at this; exact this)
          have HRB := Lib.hid (HAU.out.rd vb hvbm)
          have HRH := Lib.hid (HAU.out.rd vh hvhm)
          have HCF2 := Lib.hid (show comF vs base f = mOut vb.l vh.l f (idsU vb.l vh.l f) ∧ comC vs base f = mCl vb.l vh.l f (idsU vb.l vh.l f) by unfold comF comC; rw [if_neg HBE.out, if_neg HBE.out, hfb, hfh]; exact ⟨rfl, rfl⟩)
          subst hjb
          have hwh : IntKind.i64.wrap ((vs.length : Int) - 1) = (jh : Int) := by rw [wrap_ini (by omega) (by omega)]; omega
          have hwb : IntKind.i64.wrap ((jb : Int) + 1 - 1) = (jb : Int) := by rw [wrap_ini (by omega) (by omega)]; omega
          have hwb2 : IntKind.i64.wrap (jb : Int) = (jb : Int) := wrap_ini (by omega) (by omega)
          have hj64 : jb < 64 := by omega
          have hh64 : jh < 64 := by omega
          have hjhl2 : ((jh : Int) < vs.length) := by omega
          have hjbl2 : ((jb : Int) < vs.length) := by omega
          clear hjh
          have F0 := Lib.hid (show ∀ w', Below w4.heap.size w4 w' → w'.cell? ⟨bA, 0, none⟩ = some (.slice (some ⟨g', 0, none⟩) vs.length c) from fun w' h => (h.cell (p := ⟨bA, 0, none⟩) HAU.out.blk.lt).trans (HAU.out.blk.cell 0))
          have F1 := Lib.hid (show ∀ w', Below w4.heap.size w4 w' → w'.cell? ⟨g', jb * 2 + 1, none⟩ = some (.slice vb.a vb.l.length vb.c) from fun w' h => (h.cell (p := ⟨g', jb * 2 + 1, none⟩) hgl).trans fb1)
          have F2 := Lib.hid (show ∀ w', Below w4.heap.size w4 w' → w'.cell? ⟨g', jh * 2 + 1, none⟩ = some (.slice vh.a vh.l.length vh.c) from fun w' h => (h.cell (p := ⟨g', jh * 2 + 1, none⟩) hgl).trans fh1)
          clear fb1 fh1 hvb hvh hfb hfh hvbm hvhm hnn
          go_upto_region 15 with (fail)
          refine wp_region_held_drew (S := fun w' => Below w4.heap.size w4 w') (by kernel_rfl) (cur_drew w4 1) (fun hS => ?_)
          refine wpAnyH_take (i := 0) (v := ?_) rfl (by kernel_rfl) (by kernel_rfl) (by kernel_rfl) (fun _ _ _ h => h) (Or.inl ⟨by rfl, ?_⟩) hS ?_
          rotate_left
          · intro w' _
            go_simp
            try with_reducible rfl
          refine wpAnyH_take (i := 1) (v := ?_) rfl (by kernel_rfl) (by kernel_rfl) (by kernel_rfl) (fun _ _ _ h => h) (Or.inl ⟨by rfl, ?_⟩) hS ?_
          rotate_left
          · intro w' _
            go_simp
            try with_reducible rfl
          refine wpAnyH_take (i := 2) (v := ?_) rfl (by kernel_rfl) (by kernel_rfl) (by kernel_rfl) (fun _ _ _ h => h) (Or.inl ⟨by rfl, ?_⟩) hS ?_
          rotate_left
          · intro w' _
            go_simp
            try with_reducible rfl
          refine wpAnyH_take (i := 3) (v := .slice (some ⟨g', 0, none⟩) vs.length c) rfl (by kernel_rfl) (by kernel_rfl) (by kernel_rfl) (fun _ _ _ h => h) (Or.inl ⟨by rfl, ?_⟩) hS ?_
          · intro w' hw'
            have z0 := F0.out w' hw'
            go_simp
          refine wpAnyH_take (i := 4) (v := ?_) rfl (by kernel_rfl) (by kernel_rfl) (by kernel_rfl) (fun _ _ _ h => h) (Or.inl ⟨by rfl, ?_⟩) hS ?_
          rotate_left
          · intro w' _
            go_simp
            try with_reducible rfl
          refine wpAnyH_take (i := 5) (v := ?_) rfl (by kernel_rfl) (by kernel_rfl) (by kernel_rfl) (fun _ _ _ h => h) (Or.inl ⟨by rfl, ?_⟩) hS ?_
          rotate_left
          · intro w' _
            go_simp
            try with_reducible rfl
          refine wpAnyH_take (i := 6) (v := ?_) rfl (by kernel_rfl) (by kernel_rfl) (by kernel_rfl) (fun _ _ _ h => h) (Or.inl ⟨by rfl, ?_⟩) hS ?_
          rotate_left
          · intro w' _
            go_simp
            try with_reducible rfl
          refine wpAnyH_take (i := 7) (v := ?_) rfl (by kernel_rfl) (by kernel_rfl) (by kernel_rfl) (fun _ _ _ h => h) (Or.inl ⟨by rfl, ?_⟩) hS ?_
          rotate_left
          · intro w' _
            go_simp
            try with_reducible rfl
          refine wpAnyH_take (i := 8) (v := .slice vb.a vb.l.length vb.c) rfl (by kernel_rfl) (by kernel_rfl) (by kernel_rfl) (fun _ _ _ h => h) (Or.inl ⟨by rfl, ?_⟩) hS ?_
          · intro w' hw'
            have z0 := F1.out w' hw'
            go_simp
          refine wpAnyH_take (i := 9) (v := ?_) rfl (by kernel_rfl) (by kernel_rfl) (by kernel_rfl) (fun _ _ _ h => h) (Or.inl ⟨by rfl, ?_⟩) hS ?_
          rotate_left
          · intro w' _
            go_simp
            try with_reducible rfl
          refine wpAnyH_take (i := 10) (v := ?_) rfl (by kernel_rfl) (by kernel_rfl) (by kernel_rfl) (fun _ _ _ h => h) (Or.inl ⟨by rfl, ?_⟩) hS ?_
          rotate_left
          · intro w' _
            go_simp
            try with_reducible rfl
          refine wpAnyH_take (i := 11) (v := ?_) rfl (by kernel_rfl) (by kernel_rfl) (by kernel_rfl) (fun _ _ _ h => h) (Or.inl ⟨by rfl, ?_⟩) hS ?_
          rotate_left
          · intro w' _
            go_simp
            try with_reducible rfl
          refine wpAnyH_take (i := 12) (v := .slice (some ⟨g', 0, none⟩) vs.length c) rfl (by kernel_rfl) (by kernel_rfl) (by kernel_rfl) (fun _ _ _ h => h) (Or.inl ⟨by rfl, ?_⟩) hS ?_
          · intro w' hw'
            have z0 := F0.out w' hw'
            go_simp
          refine wpAnyH_take (i := 13) (v := ?_) rfl (by kernel_rfl) (by kernel_rfl) (by kernel_rfl) (fun _ _ _ h => h) (Or.inl ⟨by rfl, ?_⟩) hS ?_
          rotate_left
          · intro w' _
            go_simp
            try with_reducible rfl
          refine wpAnyH_take (i := 14) (v := ?_) rfl (by kernel_rfl) (by kernel_rfl) (by kernel_rfl) (fun _ _ _ h => h) (Or.inl ⟨by rfl, ?_⟩) hS ?_
          rotate_left
          · intro w' _
            go_simp
            try with_reducible rfl
          refine wpAnyH_take (i := 15) (v := ?_) rfl (by kernel_rfl) (by kernel_rfl) (by kernel_rfl) (fun _ _ _ h => h) (Or.inl ⟨by rfl, ?_⟩) hS ?_
          rotate_left
          · intro w' _
            go_simp
            try with_reducible rfl
          refine wpAnyH_take (i := 16) (v := ?_) rfl (by kernel_rfl) (by kernel_rfl) (by kernel_rfl) (fun _ _ _ h => h) (Or.inl ⟨by rfl, ?_⟩) hS ?_
          rotate_left
          · intro w' _
            go_simp
            try with_reducible rfl
          refine wpAnyH_take (i := 17) (v := .slice vh.a vh.l.length vh.c) rfl (by kernel_rfl) (by kernel_rfl) (by kernel_rfl) (fun _ _ _ h => h) (Or.inl ⟨by rfl, ?_⟩) hS ?_
          · intro w' hw'
            have z0 := F2.out w' hw'
            go_simp
          refine wpAnyH_take (i := 18) (v := ?_) rfl (by kernel_rfl) (by kernel_rfl) (by kernel_rfl) (fun _ _ _ h => h) (Or.inl ⟨by rfl, ?_⟩) hS ?_
          rotate_left
          · intro w' _
            go_simp
            try with_reducible rfl
          obtain ⟨W4, hW4⟩ : ∃ y, w4.drew = y := ⟨_, rfl⟩
          have HD4 := Lib.hid (show Below w4.heap.size w4 W4 by rw [← hW4]; exact cur_drew w4 1)
          rw [hW4] at hS ⊢
          clear hW4
          obtain ⟨fl, hfl⟩ : ∃ fl : List Fl, [⟨vb.a, vb.c, vb.l⟩, ⟨vh.a, vh.c, vh.l⟩, ⟨A, cf, f⟩] = fl := ⟨_, rfl⟩
          have HFL := Lib.hid hfl.symm
          have HFN := Lib.hid (show (flI fl).length ≤ 400 by rw [← hfl]; simp [flI]; have := HLN.out; omega)
          have HFS := Lib.hid (show ∀ x ∈ fl, ∀ y ∈ x.l, y.sc.size ≤ 9223372036854775807 by
            intro x hx y hy
            rw [← hfl] at hx
            simp only [List.mem_cons, List.not_mem_nil, or_false] at hx
            rcases hx with rfl | rfl | rfl
            · exact Nat.le_trans (HBG.out.2 y hy) (by decide)
            · exact Nat.le_trans (HHG.out.2 y hy) (by decide)
            · exact Nat.le_trans (HSC.out y hy) (by decide))
          have HFR := Lib.hid (show ∀ x ∈ fl, Rd entE 21 W4 W4.heap.size x.a x.l by
            intro x hx
            rw [← hfl] at hx
            simp only [List.mem_cons, List.not_mem_nil, or_false] at hx
            rcases hx with rfl | rfl | rfl
            · exact HRB.out.to HD4.out
            · exact HRH.out.to HD4.out
            · exact (HRD.out.to HB4.out).to HD4.out)
          have HFZ := Lib.hid (show flE fl = 0 from flE_zero (fun x hx => by
            rw [← hfl] at hx
            simp only [List.mem_cons, List.not_mem_nil, or_false] at hx
            have hln := HLN.out
            rcases hx with rfl | rfl | rfl
            · exact HBG.out.1.chk (by show vb.l.length ≤ 4000; omega)
            · exact HHG.out.1.chk (by show vh.l.length ≤ 4000; omega)
            · exact HCF.out))
          clear hfl
          refine wpAnyH_ready (rs := [19]) (by kernel_rfl) (by simp) ?_
          refine AllReadyH.cons rfl (fun K' hK => ?_) AllReadyH.nil
          go_simp
          refine merge_e fl vb.a vh.a A vb.c vh.c cf vb.l vh.l f HFL.out W4 HFN.out HFS.out HFR.out _ (fun h => absurd HFZ.out h) ?_
          intro _ v1 v2 w5 ho1 ho2 hb5
          obtain ⟨A4, c4, rfl, hr4, hxx⟩ := OwnL.rd entE_len ho1
          have HR4 := Lib.hid hr4
          have HBW := Lib.hid (show Below w.heap.size w w5 from cur_step1 (cur_step1 HB4.out HD4.out) hb5)
          have hws : w.heap.size ≤ W4.heap.size := (cur_step1 HB4.out HD4.out).size
          have HO4 := Lib.hid (own_range (own_mono ho1 hws))
          have HCL := Lib.hid (own_mono ho2 hws)
          rw [← HCF2.out.1] at HR4 HO4
          rw [← HCF2.out.2] at HCL
          have hml : (mOut vb.l vh.l f (idsU vb.l vh.l f)).length = (comF vs ((jb : Int) + 1) f).length := by rw [HCF2.out.1]
          rw [hml]
          dsimp only
          refine hK.out _ _ (cur_step1 hS hb5) (fun hS'' => ?_)
          clear hK K' hxx hr4 ho1 ho2 hb5 hml
          refine wpAnyH_take (i := 20) (v := ?_) rfl (by kernel_rfl) (by kernel_rfl) (by kernel_rfl) (fun _ _ _ h => h) (Or.inl ⟨by rfl, ?_⟩) hS'' ?_
          rotate_left
          · intro w' _
            go_simp
            try with_reducible rfl
          refine wpAnyH_take (i := 21) (v := ?_) rfl (by kernel_rfl) (by kernel_rfl) (by kernel_rfl) (fun _ _ _ h => h) (Or.inl ⟨by rfl, ?_⟩) hS'' ?_
          rotate_left
          · intro w' _
            go_simp
            try with_reducible rfl
          refine wpAnyH_take (i := 22) (v := ?_) rfl (by kernel_rfl) (by kernel_rfl) (by kernel_rfl) (fun _ _ _ h => h) (Or.inl ⟨by rfl, ?_⟩) hS'' ?_
          rotate_left
          · intro w' _
            go_simp
            try with_reducible rfl
          refine wpAnyH_take (i := 23) (v := ?_) rfl (by kernel_rfl) (by kernel_rfl) (by kernel_rfl) (fun _ _ _ h => h) (Or.inl ⟨by rfl, ?_⟩) hS'' ?_
          rotate_left
          · intro w' _
            go_simp
            try with_reducible rfl
          refine wpAnyH_ready (rs := [24]) (by kernel_rfl) (by simp) ?_
          refine AllReadyH.cons rfl (fun K' hK => ?_) AllReadyH.nil
          go_simp
          refine hK.out _ _ hS'' (fun _ => ?_)
          clear hK K'
          refine wpAnyH_ready (rs := [25]) (by kernel_rfl) (by simp) ?_
          refine AllReadyH.cons rfl (fun K' hK => ?_) AllReadyH.nil
          go_simp
          refine hK.out _ _ hS'' (fun _ => ?_)
          clear hK K'
          refine wpAnyH_ready (rs := [26]) (by kernel_rfl) (by simp) ?_
          refine AllReadyH.cons rfl (fun K' hK => ?_) AllReadyH.nil
          go_simp
          refine hK.out _ _ hS'' (fun _ => ?_)
          clear hK K'
          refine wpAnyH_done (by kernel_rfl) ?_ _
          clear hS hS''
          obtain ⟨F, hF⟩ : ∃ F, comF vs ((jb : Int) + 1) f = F := ⟨_, rfl⟩
          rw [hF] at HR4 HO4 ⊢
          have HFE := Lib.hid hF
          clear hF hwh hwb hwb2 hjhl2 hjbl2
          go_upto_region 18 with (fail)
          have HAU := Lib.hid (HA.out.to HBW.out)
          have a0 : w5.cell? ⟨bA, 0, none⟩ = some (.slice (some ⟨g', 0, none⟩) vs.length c) := HAU.out.blk.cell 0
          have hlA := HAU.out.blk.lt
          refine wp_region_lit ?_
          (refine wpList_step (fun K hK => ?_); go_simp; refine hK _ _ ?_; clear hK K)
          (refine wpList_step (fun K hK => ?_); go_simp; refine hK _ _ ?_; clear hK K)
          (refine wpList_step (fun K hK => ?_); go_simp; refine hK _ _ ?_; clear hK K)
          (refine wpList_step (fun K hK => ?_); go_simp; refine hK _ _ ?_; clear hK K)
          (refine wpList_step (fun K hK => ?_); go_simp; refine hK _ _ ?_; clear hK K)
          (refine wpList_step (fun K hK => ?_); go_simp; refine hK _ _ ?_; clear hK K)
          (refine wpList_step (fun K hK => ?_); go_simp; refine hK _ _ ?_; clear hK K)
          (refine wpList_step (fun K hK => ?_); go_simp; refine hK _ _ ?_; clear hK K)
          refine wpList_buildE Try.verElem rfl 1 _ rfl [⟨(jb : Int) + 1, A4, c4, F⟩] rfl (by decide) (by decide) (by rfl) ?_
          rw [show [(⟨(jb : Int) + 1, A4, c4, F⟩ : Vr)].flatMap verE = verE ⟨(jb : Int) + 1, A4, c4, F⟩ from List.append_nil _]
          obtain ⟨W5, hW5⟩ : ∃ y, w5.alloc (.cells (verE ⟨(jb : Int) + 1, A4, c4, F⟩).toArray 95) = y := ⟨_, rfl⟩
          have hb5 : Below w5.heap.size w5 W5 := by rw [← hW5]; exact cur_new _ _
          have hk5 : W5.heap[w5.heap.size]? = some (.cells (verE ⟨(jb : Int) + 1, A4, c4, F⟩).toArray 95 (0, 0)) := by rw [← hW5]; exact heap_alloc_new _ _
          rw [hW5]
          clear hW5
          refine wpList_app1 Try.verElem W5 rfl (.tmp 73) (.tmp 77) rfl B0 (some ⟨g', 0, none⟩) c vs (by rfl) (own_below HAU.out.own hb5 (Nat.le_refl _)) ⟨(jb : Int) + 1, A4, c4, F⟩ w5.heap.size 1 (by rfl) hk5 (by unfold maxLen; omega) (by omega) (Nat.le_trans hB0 (cur_step1 HBW.out hb5).size) ?_
          intro g cap w8 ha
          obtain ⟨hAN, hFN, hgN⟩ := HAU.out.add hb5 HR4.out (fun b o e => by
            have h1 := HO4.out b (by rw [show A4 = some ⟨b, o, none⟩ from e]; rfl)
            have h2 := HA.out.blk.lt
            refine ⟨h1.2, by omega, fun e2 => ?_⟩
            have h3 := (own_range HA.out.own b e2).2
            omega) ha
          have HAN := Lib.hid hAN
          have HFN := Lib.hid (show Far (bA :: (Value.slice (some ⟨g', 0, none⟩) vs.length c).ownBlock.toList) w _ from (Far.of HBW.out).trans hFN (fun x hx => Or.inl hx))
          have HGN := Lib.hid hgN
          have HFU := Lib.hid hFN
          have hb8 : Blk w8 bA 92 [.slice (some ⟨g', 0, none⟩) vs.length c] := (HAU.out.to hb5).blk.far (bs := (Value.slice (some ⟨g', 0, none⟩) vs.length c).ownBlock.toList) (Far.grown ha.grown (fun b hb => by rw [hb]; simp)) (fun hx => by
            cases ho : (Value.slice (some ⟨g', 0, none⟩) vs.length c).ownBlock with
            | none => rw [ho] at hx; simp at hx
            | some y => rw [ho] at hx; simp at hx; exact HAU.out.ne y ho hx.symm)
          have a8 : w8.cell? ⟨bA, 0, none⟩ = some (.slice (some ⟨g', 0, none⟩) vs.length c) := hb8.cell 0
          have f8 : w8.frozen? ⟨bA, 0, none⟩ = false := hb8.frozen 0
          have l8 := hb8.lt
          clear ha hk5 hb5 hAN hFN hgN hb8
          (refine wpList_step (fun K hK => ?_); go_simp; refine hK _ _ ?_; clear hK K)
          (refine wpList_step (fun K hK => ?_); go_simp; refine hK _ _ ?_; clear hK K)
          (refine wpList_step (fun K hK => ?_); go_simp; refine hK _ _ ?_; clear hK K)
          have HGOAL := Lib.hid HE.out
          go_wp2_with (fail)
          go_ret3
          have hres := HGOOD.out HE.out _ _ _ v2 A4 c4 (by rw [HFE.out]; exact HAN.out) (own_far HCL.out HFU.out (fun b hb hx => by
            have h1 := (own_range HCL.out b hb).1
            have h2 := HA.out.blk.lt
            rcases List.mem_cons.1 hx with e | e
            · omega
            · have h3 := own_range HA.out.own b (by simpa using e)
              omega)) HFN.out (fun b hb => by
            rcases HGN.out with e1 | e1
            · exact Or.inl (by rw [e1]; exact hb)
            · have hb' : g = b := Option.some.inj (show some g = some b from hb)
              exact Or.inr (by have := HBW.out.size; omega)) (fun b o e => by
            have h1 := HO4.out b (by rw [show A4 = some ⟨b, o, none⟩ from e]; rfl)
            omega)
          exact hres
  · have HE := Lib.hid (show comE vs.length base f = chkA f by unfold comE; rw [if_pos hc])
    obtain ⟨v, hv⟩ : ∃ v, chkA f = v := ⟨_, rfl⟩
    have gv : (v != 0) = true := by rw [← hv]; simpa using hc
    have HV := Lib.hid (show ce = v by rw [← HCE.out, HE.out, hv])
    have HR := Lib.hid (HBAD.out (by rw [HV.out, ← hv]; exact hc) w1 HB1.out)
    rw [hv]
    clear hc hv
    go_wp2_with (fail)
    go_ret3
    have := HR.out
    rw [HV.out] at this
    exact this
end Go.Proofs.Ytimmlffgokgekaa
