/-
  Chapter 58, the reference: ids.
-/
import Derived.Test.YtimmlffgokgekaaFndR
import Derived.Test.YtimmlffgokgekaaFl58
set_option linter.unusedSimpArgs false
set_option linter.unusedVariables false
namespace Go.Proofs.Ytimmlffgokgekaa
open Go.RowKit
set_option maxRecDepth 100000
set_option maxHeartbeats 20000000
theorem own_cell {w : World} {base g c e : Nat} {l : List Int} (h : OwnL inE 1 e base w (.slice (some ⟨g, 0, none⟩) l.length c) l) {k : Nat} {y : Int} (hk : l[k]? = some y) : w.cell? ⟨g, k, none⟩ = some (.int .i64 y) := by
  have := World.ownsRow.cells (g := g) h rfl k (.int .i64 y) (by rw [flat_inE, List.getElem?_map, hk]; rfl)
  simpa [Addr.add_lit] using this
theorem own_capmax {w : World} {base g c e : Nat} {l : List Int} (h : OwnL inE 1 e base w (.slice (some ⟨g, 0, none⟩) l.length c) l) : l.length ≤ c ∧ c ≤ maxLen := by
  rcases h.2 with ⟨hv, _⟩ | ⟨g', cap, cur, hv, _, _, hn, hm, _⟩
  · cases hv
  · injection hv with h1 h2 h3
    subst h3
    exact ⟨hn, hm⟩
theorem rd_drop {w : World} {g : Nat} {l : List Int} {k : Nat} (h : Rd inE 1 w w.heap.size (some ⟨g, 0, none⟩) l) : Rd inE 1 w w.heap.size (some ⟨g, k, none⟩) (l.drop k) := by
  intro j x hx
  rw [List.getElem?_drop] at hx
  obtain ⟨b, off, e, hb, hc⟩ := h (k + j) x hx
  injection e with e
  injection e with e1 e2 _
  subst e1 e2
  exact ⟨g, k, rfl, hb, fun i v hv => by have := hc i v hv; rw [show 0 + (k + j) * 1 + i = k + j * 1 + i by omega] at this; exact this⟩
def Id3 (l : List Int) (x : Int) (w0 : World) (v : Value) (wr : World) : Prop := ∃ k : Nat, k ≤ l.length ∧ v = .int .i64 k ∧ (∀ j y, j < k → l[j]? = some y → y < x) ∧ Below w0.heap.size w0 wr
def Id2 (P0 : List Int) (es : List Ent) (base : Nat) (w0 : World) (v iv : Value) (wr : World) : Prop :=
  ∃ (k g c : Nat), k ≤ es.length ∧ iv = .int .i64 k ∧ v = .slice (some ⟨g, 0, none⟩) (insL P0 ((es.take k).map Ent.id)).length c ∧ OwnL inE 1 2 base wr v (insL P0 ((es.take k).map Ent.id)) ∧ Below base w0 wr
def Id1 (fl : List Fl) (w0 : World) (v iv : Value) (wr : World) : Prop :=
  ∃ (k g c : Nat), k ≤ fl.length ∧ iv = .int .i64 k ∧ v = .slice (some ⟨g, 0, none⟩) (insL [] (flI (fl.take k))).length c ∧ OwnL inE 1 2 w0.heap.size wr v (insL [] (flI (fl.take k))) ∧ Below w0.heap.size w0 wr
theorem ids_r (fl : List Fl) (s : Nat) (w : World) (hs : Blk w s 22 (fl.map flV)) (h3 : fl.length = 3) (hlen : (flI fl).length ≤ 400) (hrd : ∀ f ∈ fl, Rd entE 21 w w.heap.size f.a f.l) :
    Calls Try.prog 41 #[.slice (some ⟨s, 0, none⟩) 3 3] w fun e w' => (∃ g c, e = .returned (.slice (some ⟨g, 0, none⟩) (insL [] (flI fl)).length c) ∧ OwnL inE 1 2 w.heap.size w' (.slice (some ⟨g, 0, none⟩) (insL [] (flI fl)).length c) (insL [] (flI fl))) ∧ Below w.heap.size w w' := by
  have HS := Lib.hid hs
  have HSL := Lib.hid hs.lt
  have HRD := Lib.hid hrd
  have HLEN := Lib.hid hlen
  have H3 := Lib.hid h3
  have HFLEN := Lib.hid (show ∀ k (f : Fl), fl[k]? = some f → (flI (fl.take k)).length + f.l.length ≤ 400 from fun k f hk => by
    have := flI_len hlen (k + 1)
    rw [flI_next hk] at this
    simpa using this)
  clear hs hrd hlen h3
  go_enter Try.func41, Try.ntmps41
  go_wp2_with (fail)
  have HO0 := Lib.hid (show OwnL inE 1 2 w.heap.size (w.alloc (.cells #[] 2)) (.slice (some ⟨w.heap.size, 0, none⟩) ([] : List Int).length 0) [] from World.ownsRow_made w #[] 0 (Nat.le_refl _) (Nat.zero_le _) (by simp))
  go_loopw [3, 12] (Id1 fl w) (fun _ i _ => 3 - (intOf i).toNat)
  case atStart => exact ⟨0, _, _, by omega, rfl, rfl, HO0.out, cur_new _ _⟩
  case round =>
    clear HO0
    obtain ⟨k, g, c, hk, rfl, rfl, hown, hb⟩ := hrel
    have HO := Lib.hid hown
    have HB := Lib.hid hb
    rw [H3.out] at hk
    clear hown hb
    obtain ⟨P0, hP0⟩ : ∃ P0, insL [] (flI (fl.take k)) = P0 := ⟨_, rfl⟩
    have HP0 := Lib.hid hP0
    rw [hP0] at HO ⊢
    clear hP0
    by_cases hk3 : k < 3
    · obtain ⟨f, hf⟩ : ∃ f, fl[k]? = some f := ⟨_, List.getElem?_eq_getElem (by rw [H3.out]; exact hk3)⟩
      have HRF := Lib.hid (HRD.out f (List.mem_of_getElem? hf))
      have HFL := Lib.hid (HFLEN.out k f hf)
      have HNX := Lib.hid (show insL [] (flI (fl.take (k + 1))) = insL P0 (f.l.map Ent.id) by rw [flI_next hf, insL_app, HP0.out])
      have HPL := Lib.hid (show P0.length ≤ (flI (fl.take k)).length by rw [← HP0.out]; simpa using insL_len [] (flI (fl.take k)))
      have hcell : wr.cell? ⟨s, k, none⟩ = some (.slice f.a f.l.length f.c) := by rw [(HS.out.to HB.out).cell, List.getElem?_map, hf]; rfl
      have hfl : f.l.length ≤ 400 := by have := HFL.out; omega
      have gk : decide ((k : Int) < 3) = true := decide_eq_true (by omega)
      clear hf
      go_wp2_with (fail)
      clear gk
      go_loopw [3, 18] (Id2 P0 f.l w.heap.size w) (fun _ i _ => f.l.length - (intOf i).toNat)
      case atStart => exact ⟨0, g, c, by omega, rfl, rfl, HO.out, HB.out⟩
      case round =>
        clear HO HB hcell
        obtain ⟨j, g1, c1, hj, rfl, rfl, hown, hb⟩ := hrel
        have HO := Lib.hid hown
        have HB := Lib.hid hb
        clear hown hb
        obtain ⟨l, hl⟩ : ∃ l, insL P0 ((f.l.take j).map Ent.id) = l := ⟨_, rfl⟩
        have HL := Lib.hid hl
        have HLL := Lib.hid (show l.length ≤ 400 by
          have h1 := insL_len P0 ((f.l.take j).map Ent.id)
          rw [hl] at h1
          have h2 := HFL.out
          have h3 := HPL.out
          simp at h1
          omega)
        rw [hl] at HO ⊢
        clear hl
        by_cases hjl : j < f.l.length
        · obtain ⟨x, hx⟩ : ∃ x, f.l[j]? = some x := ⟨_, List.getElem?_eq_getElem hjl⟩
          obtain ⟨b2, off2, hfa, hb2l, hc2⟩ := rd_at HRF.out HB.out hx
          rw [hfa]
          have HRA := Lib.hid hc2
          have HNL := Lib.hid (show insL P0 ((f.l.take (j + 1)).map Ent.id) = insI l x.id by rw [List.take_add_one, hx, ← HL.out]; simp [insL_snoc])
          clear hc2 hx hfa
          obtain ⟨W6, hW6⟩ : ∃ y, wr.alloc (.cells (entE x).toArray 39) = y := ⟨_, rfl⟩
          have HB6 := Lib.hid (show Below wr.heap.size wr W6 by rw [← hW6]; exact cur_new _ _)
          have HX6 := Lib.hid (show Blk W6 wr.heap.size 39 (entE x) by rw [← hW6]; exact Blk.new wr _ _)
          have S6 := Lib.hid hW6
          have HO6 := Lib.hid (own_below HO.out HB6.out (Nat.le_refl _))
          have HB66 := Lib.hid (cur_step1 HB.out HB6.out)
          have HT6 := Lib.hid (Nat.lt_of_lt_of_le (own_range HO.out g1 rfl).2 (Nat.le_refl _))
          clear hW6
          go_upto_region 9 with (first | (refine wpList_load_mid rfl 39 _ rfl b2 (off2 + j * 21) (by rfl) (entE x) _ HRA.out (by rfl) (by rfl) ent_info ?_) | (refine wpList_storeNew rfl _ _ 39 rfl _ (entE x).toArray ent_info (by rfl) (by rfl) rfl (ent_one _) ?_; rw [S6.out]))
          obtain ⟨B0, hB0⟩ : ∃ y, wr.heap.size = y := ⟨_, rfl⟩
          rw [hB0] at HX6 ⊢
          have hlen4 := HLL.out
          go_loopw [8] (Id3 l x.id W6) (fun i _ => l.length - (intOf i).toNat)
          case atStart => exact ⟨0, by omega, rfl, fun j y hj => by omega, Below.refl _ _⟩
          case round =>
            obtain ⟨q, hq, rfl, hlt, hb⟩ := hrel
            have HLT := Lib.hid hlt
            have HB7 := Lib.hid hb
            have e0 : wr.cell? ⟨B0, 0, none⟩ = some (.int .i64 x.id) := (HX6.out.to hb).cell 0
            have HO7 := Lib.hid (own_below HO6.out hb (Nat.le_refl _))
            clear hlt hb
            by_cases hql : q < l.length
            · obtain ⟨y, hy⟩ : ∃ y, l[q]? = some y := ⟨_, List.getElem?_eq_getElem hql⟩
              have hyc := own_cell HO7.out hy
              have HY := Lib.hid hy
              have gq : ((q : Int) == (l.length : Int)) = false := by simp; omega
              clear hy
              by_cases hyx : y < x.id
              · have gy : decide (y < x.id) = true := decide_eq_true hyx
                have HLT2 := Lib.hid (show ∀ j z, j < q + 1 → l[j]? = some z → z < x.id from fun j z hj hz => by
                  by_cases e : j = q
                  · subst e; rw [HY.out] at hz; injection hz with hz; subst hz; exact hyx
                  · exact HLT.out j z (by omega) hz)
                clear hyx
                go_wp2_with (fail)
                go_quiet (fail)
                go_wp2
                go_roundw
                case rel => exact ⟨q + 1, hql, by simp, HLT2.out, below_drewN HB7.out _⟩
                case measure => simp [intOf]; omega
              · have gy : decide (y < x.id) = false := decide_eq_false hyx
                have HIA := Lib.hid (insI_at hq HLT.out (fun z hz => by rw [HY.out] at hz; injection hz with hz; subst hz; exact hyx))
                clear hyx
                go_wp2_with (fail)
                go_quiet (fail)
                have HBQ := Lib.hid (below_drewN HB7.out nq)
                have e0 : (wr.drewN nq).cell? ⟨B0, 0, none⟩ = some (.int .i64 x.id) := e0
                have hyc : (wr.drewN nq).cell? ⟨g1, q, none⟩ = some (.int .i64 y) := hyc
                generalize wr.drewN nq = W5 at HBQ e0 hyc ⊢
                by_cases hye : y = x.id
                · have gz : (y != x.id) = false := by simpa using hye
                  have HIN := Lib.hid (show insI l x.id = l by rw [HIA.out, if_pos (by rw [HY.out, hye])])
                  clear hye
                  go_wp2_with (fail)
                  go_quiet (fail)
                  go_wp2_with (fail)
                  refine ⟨⟨j + 1, g1, c1, hjl, rfl, by rw [HNL.out, HIN.out], ?_, HB66.out.trans ((below_drewN HBQ.out _).mono HB66.out.size)⟩, by show f.l.length - (j + 1) < f.l.length - j; omega⟩
                  rw [HNL.out, HIN.out]
                  exact own_below HO6.out (below_drewN HBQ.out _) (Nat.le_refl _)
                · have gz : (y != x.id) = true := by simpa using hye
                  have HNE := Lib.hid (show ¬ l[q]? = some x.id by rw [HY.out]; intro h; injection h with h; exact hye h)
                  clear hye
                  go_wp2_with (fail)
                  go_quiet (fail)
                  have HB7' := Lib.hid (below_drewN HBQ.out nq)
                  have e0 : (W5.drewN nq).cell? ⟨B0, 0, none⟩ = some (.int .i64 x.id) := e0
                  generalize W5.drewN nq = W7 at HB7' e0 ⊢
                  have HOQ := Lib.hid (own_below HO6.out HB7'.out (Nat.le_refl _))
                  clear hyc HY gz gy HBQ HO7
                  have HIN := Lib.hid (show insI l x.id = l.take q ++ ([x.id] ++ l.drop q) by rw [HIA.out, if_neg HNE.out])
                  have HCM := own_capmax HOQ.out
                  have hq3 : c1 ≤ 9223372036854775807 := HCM.2
                  have hq2 : l.length ≤ c1 := HCM.1
                  have hql := hq
                  have hll := HLL.out
                  have hqc : q ≤ c1 := by omega
                  have hg1 := (own_range HOQ.out g1 rfl).2
                  have htl : (l.take q).length = q := by simp; omega
                  have hdl : (l.drop q).length = l.length - q := by simp
                  have HRDQ := Lib.hid (show Rd inE 1 W7 W7.heap.size (some ⟨g1, q, none⟩) (l.drop q) from by
                    obtain ⟨A, c, e, hr, _⟩ := OwnL.rd inE_len HOQ.out
                    injection e with e1 _ e3
                    subst e1
                    exact rd_drop hr)
                  have HPRE := Lib.hid (own_take inE_len HOQ.out hq)
                  rw [htl] at HPRE
                  have hqlt : ((q : Int)) ≤ l.length := by omega
                  clear HCM
                  go_upto_region 12 with (fail)
                  refine wp_region_any (by kernel_rfl) ?_
                  try (change wpAny _ _ _ _ _ _ _ (World.drew _))
                  obtain ⟨W8, hW8⟩ : ∃ y, W7.drew = y := ⟨_, rfl⟩
                  have HB8 := Lib.hid (show Below W7.heap.size W7 W8 by rw [← hW8]; exact cur_drew W7 1)
                  have e08 : W8.cell? ⟨B0, 0, none⟩ = some (.int .i64 x.id) := by rw [← hW8]; exact e0
                  rw [hW8]
                  clear hW8
                  refine wpAny_take (i := 0) (v := ?_) rfl (by kernel_rfl) (by kernel_rfl) (by kernel_rfl) (fun _ _ _ h => h) (Or.inl ⟨by rfl, ?_⟩) ?_
                  rotate_left
                  · intro w
                    go_simp
                    try with_reducible rfl
                  refine wpAny_take (i := 1) (v := ?_) rfl (by kernel_rfl) (by kernel_rfl) (by kernel_rfl) (fun _ _ _ h => h) (Or.inl ⟨by rfl, ?_⟩) ?_
                  rotate_left
                  · intro w
                    go_simp
                    try with_reducible rfl
                  refine wpAny_take (i := 3) (v := ?_) rfl (by kernel_rfl) (by kernel_rfl) (by kernel_rfl) (fun _ _ _ h => h) (Or.inl ⟨by rfl, ?_⟩) ?_
                  rotate_left
                  · intro w
                    go_simp
                    try with_reducible rfl
                  refine wpAny_take (i := 6) (v := ?_) rfl (by kernel_rfl) (by kernel_rfl) (by kernel_rfl) (fun _ _ _ h => h) (Or.inl ⟨by rfl, ?_⟩) ?_
                  rotate_left
                  · intro w
                    go_simp
                    try with_reducible rfl
                  refine wpAny_take (i := 7) (v := ?_) rfl (by kernel_rfl) (by kernel_rfl) (by kernel_rfl) (fun _ _ _ h => h) (Or.inl ⟨by rfl, ?_⟩) ?_
                  rotate_left
                  · intro w
                    go_simp
                    try with_reducible rfl
                  refine wpAny_take (i := 2) (v := ?_) rfl (by kernel_rfl) (by kernel_rfl) (by kernel_rfl) (fun _ _ _ h => h) (Or.inl ⟨by rfl, ?_⟩) ?_
                  rotate_left
                  · intro w
                    go_simp
                    try with_reducible rfl
                  refine wpAny_take (i := 8) (v := ?_) rfl (by kernel_rfl) (by kernel_rfl) (by kernel_rfl) (fun _ _ _ h => h) (Or.inl ⟨by rfl, ?_⟩) ?_
                  rotate_left
                  · intro w
                    go_simp
                    try with_reducible rfl
                  refine wpAny_ready (rs := [4]) (by kernel_rfl) (by simp) ?_
                  refine AllReady.cons rfl (fun K hK => ?_) AllReady.nil
                  go_simp
                  refine hK _ _ ?_
                  clear hK K
                  refine wpAny_ready (rs := [5]) (by kernel_rfl) (by simp) ?_
                  refine AllReady.cons rfl (fun K hK => ?_) AllReady.nil
                  go_simp
                  refine hK _ _ ?_
                  clear hK K
                  obtain ⟨W9, hW9⟩ : ∃ y, W8.alloc (.cells (inE x.id).toArray 2) = y := ⟨_, rfl⟩
                  have HB9 := Lib.hid (show Below W8.heap.size W8 W9 by rw [← hW9]; exact cur_new _ _)
                  have HON := Lib.hid (show OwnL inE 1 2 W8.heap.size W9 (.slice (some ⟨W8.heap.size, 0, none⟩) [x.id].length 1) [x.id] by
                    rw [← hW9]
                    exact ⟨rfl, .inr ⟨W8.heap.size, 1, _, rfl, Nat.le_refl _, heap_alloc_new W8 _, by simp, by unfold maxLen; omega, by simp [inE], by simp [inE]⟩⟩)
                  rw [show W8.alloc (.cells #[.int .i64 x.id] 2) = W9 from hW9]
                  clear hW9
                  refine wpAny_ready (rs := [9]) (by kernel_rfl) (by simp) ?_
                  refine AllReady.cons rfl (fun K hK => ?_) AllReady.nil
                  refine step_appL Try.i64Elem W9 (by rfl) (.tmp 55) (.tmp 58) (by rfl) W8.heap.size W8.heap.size 1 [x.id] (by rfl) HON.out (some ⟨g1, q, none⟩) (c1 - q) (l.drop q) ?v1 ((HRDQ.out.to HB8.out).to HB9.out) (by rw [hdl]; unfold maxLen; simp; omega) (by rw [hdl]; simp; omega) HB9.out.size ?_
                  case v1 => rw [hdl]; go_simp; intro h; omega
                  intro g2 c2 wA hoA hgA hatA
                  have HBA := Lib.hid (show Below w.heap.size w wA from (cur_step1 (cur_step1 (cur_step1 HB66.out HB7'.out) HB8.out) HB9.out).grown hgA (cur_step1 (cur_step1 (cur_step1 HB66.out HB7'.out) HB8.out) HB9.out).size (fun b hb => by injection hb with hb; have := (cur_step1 (cur_step1 HB66.out HB7'.out) HB8.out).size; omega))
                  have HPA := Lib.hid (own_grown (own_below (own_below HPRE.out HB8.out (Nat.le_refl _)) HB9.out (Nat.le_refl _)) hgA (fun b hb e => by
                    injection e with e
                    have h1 := (own_range (own_below HPRE.out HB8.out (Nat.le_refl _)) b hb).2
                    omega))
                  have HRA2 := Lib.hid (show Rd inE 1 wA wA.heap.size (some ⟨g2, 0, none⟩) ([x.id] ++ l.drop q) from by
                    obtain ⟨A, c, e, hr, _⟩ := OwnL.rd inE_len hoA
                    injection e with e1 _ e3
                    subst e1
                    exact hr)
                  clear hoA hgA hatA
                  refine hK _ _ ?_
                  clear hK K
                  go_simp
                  refine wpAny_ready (rs := [10]) (by kernel_rfl) (by simp) ?_
                  refine AllReady.cons rfl (fun K hK => ?_) AllReady.nil
                  refine step_appL Try.i64Elem wA (by rfl) (.tmp 52) (.tmp 59) (by rfl) w.heap.size g1 c1 (l.take q) ?v2 (by rw [htl]; exact HPA.out) (some ⟨g2, 0, none⟩) c2 ([x.id] ++ l.drop q) (by go_simp) HRA2.out (by rw [htl]; unfold maxLen; simp; omega) (by rw [htl]; simp; omega) HBA.out.size ?_
                  case v2 => rw [htl]; go_simp
                  intro g4 c4 wB hoB hgB _
                  have HBB := Lib.hid (show Below w.heap.size w wB from HBA.out.grown hgB HBA.out.size (fun b hb => by injection hb with hb; have := (own_range HPA.out g1 rfl).1; omega))
                  have HOB := Lib.hid hoB
                  clear hoB hgB
                  refine hK _ _ ?_
                  clear hK K
                  go_simp
                  refine wpAny_ready (rs := [11]) (by kernel_rfl) (by simp) ?_
                  refine AllReady.cons rfl (fun K hK => ?_) AllReady.nil
                  go_simp
                  refine hK _ _ ?_
                  clear hK K
                  refine wpAny_done (by kernel_rfl) ?_ _
                  have HLN := Lib.hid (show (insI l x.id).length = q + (l.length - q + 1) by rw [HIN.out]; simp; omega)
                  rw [← HIN.out] at HOB
                  rw [HLN.out] at HOB
                  go_wp2_with (fail)
                  refine ⟨⟨j + 1, g4, c4, hjl, rfl, by rw [HNL.out, HLN.out], ?_, HBB.out⟩, by show f.l.length - (j + 1) < f.l.length - j; omega⟩
                  rw [HNL.out]
                  exact HOB.out
            · have hqe : q = l.length := by omega
              have gq : ((q : Int) == (l.length : Int)) = true := by simp; omega
              have glt : decide ((q : Int) < (l.length : Int)) = false := decide_eq_false (by omega)
              have hn : l[q]? = none := List.getElem?_eq_none (by omega)
              have HIA := Lib.hid (insI_at hq HLT.out (fun z hz => by rw [hn] at hz; cases hz))
              have HNE := Lib.hid (show ¬ l[q]? = some x.id by rw [hn]; intro h; cases h)
              clear hn
              go_wp2_with (fail)
              go_quiet (fail)
              have HBQ := Lib.hid (below_drewN HB7.out nq)
              have e0 : (wr.drewN nq).cell? ⟨B0, 0, none⟩ = some (.int .i64 x.id) := e0
              generalize wr.drewN nq = W5 at HBQ e0 ⊢
              go_wp2_with (fail)
              go_quiet (fail)
              have HB7' := Lib.hid (below_drewN HBQ.out nq)
              have e0 : (W5.drewN nq).cell? ⟨B0, 0, none⟩ = some (.int .i64 x.id) := e0
              generalize W5.drewN nq = W7 at HB7' e0 ⊢
              have HOQ := Lib.hid (own_below HO6.out HB7'.out (Nat.le_refl _))
              clear gq glt HBQ HO7
              have HIN := Lib.hid (show insI l x.id = l.take q ++ ([x.id] ++ l.drop q) by rw [HIA.out, if_neg HNE.out])
              have HCM := own_capmax HOQ.out
              have hq3 : c1 ≤ 9223372036854775807 := HCM.2
              have hq2 : l.length ≤ c1 := HCM.1
              have hql := hq
              have hll := HLL.out
              have hqc : q ≤ c1 := by omega
              have hg1 := (own_range HOQ.out g1 rfl).2
              have htl : (l.take q).length = q := by simp; omega
              have hdl : (l.drop q).length = l.length - q := by simp
              have HRDQ := Lib.hid (show Rd inE 1 W7 W7.heap.size (some ⟨g1, q, none⟩) (l.drop q) from by
                obtain ⟨A, c, e, hr, _⟩ := OwnL.rd inE_len HOQ.out
                injection e with e1 _ e3
                subst e1
                exact rd_drop hr)
              have HPRE := Lib.hid (own_take inE_len HOQ.out hq)
              rw [htl] at HPRE
              have hqlt : ((q : Int)) ≤ l.length := by omega
              clear HCM
              go_upto_region 12 with (fail)
              refine wp_region_any (by kernel_rfl) ?_
              try (change wpAny _ _ _ _ _ _ _ (World.drew _))
              obtain ⟨W8, hW8⟩ : ∃ y, W7.drew = y := ⟨_, rfl⟩
              have HB8 := Lib.hid (show Below W7.heap.size W7 W8 by rw [← hW8]; exact cur_drew W7 1)
              have e08 : W8.cell? ⟨B0, 0, none⟩ = some (.int .i64 x.id) := by rw [← hW8]; exact e0
              rw [hW8]
              clear hW8
              refine wpAny_take (i := 0) (v := ?_) rfl (by kernel_rfl) (by kernel_rfl) (by kernel_rfl) (fun _ _ _ h => h) (Or.inl ⟨by rfl, ?_⟩) ?_
              rotate_left
              · intro w
                go_simp
                try with_reducible rfl
              refine wpAny_take (i := 1) (v := ?_) rfl (by kernel_rfl) (by kernel_rfl) (by kernel_rfl) (fun _ _ _ h => h) (Or.inl ⟨by rfl, ?_⟩) ?_
              rotate_left
              · intro w
                go_simp
                try with_reducible rfl
              refine wpAny_take (i := 3) (v := ?_) rfl (by kernel_rfl) (by kernel_rfl) (by kernel_rfl) (fun _ _ _ h => h) (Or.inl ⟨by rfl, ?_⟩) ?_
              rotate_left
              · intro w
                go_simp
                try with_reducible rfl
              refine wpAny_take (i := 6) (v := ?_) rfl (by kernel_rfl) (by kernel_rfl) (by kernel_rfl) (fun _ _ _ h => h) (Or.inl ⟨by rfl, ?_⟩) ?_
              rotate_left
              · intro w
                go_simp
                try with_reducible rfl
              refine wpAny_take (i := 7) (v := ?_) rfl (by kernel_rfl) (by kernel_rfl) (by kernel_rfl) (fun _ _ _ h => h) (Or.inl ⟨by rfl, ?_⟩) ?_
              rotate_left
              · intro w
                go_simp
                try with_reducible rfl
              refine wpAny_take (i := 2) (v := ?_) rfl (by kernel_rfl) (by kernel_rfl) (by kernel_rfl) (fun _ _ _ h => h) (Or.inl ⟨by rfl, ?_⟩) ?_
              rotate_left
              · intro w
                go_simp
                try with_reducible rfl
              refine wpAny_take (i := 8) (v := ?_) rfl (by kernel_rfl) (by kernel_rfl) (by kernel_rfl) (fun _ _ _ h => h) (Or.inl ⟨by rfl, ?_⟩) ?_
              rotate_left
              · intro w
                go_simp
                try with_reducible rfl
              refine wpAny_ready (rs := [4]) (by kernel_rfl) (by simp) ?_
              refine AllReady.cons rfl (fun K hK => ?_) AllReady.nil
              go_simp
              refine hK _ _ ?_
              clear hK K
              refine wpAny_ready (rs := [5]) (by kernel_rfl) (by simp) ?_
              refine AllReady.cons rfl (fun K hK => ?_) AllReady.nil
              go_simp
              refine hK _ _ ?_
              clear hK K
              obtain ⟨W9, hW9⟩ : ∃ y, W8.alloc (.cells (inE x.id).toArray 2) = y := ⟨_, rfl⟩
              have HB9 := Lib.hid (show Below W8.heap.size W8 W9 by rw [← hW9]; exact cur_new _ _)
              have HON := Lib.hid (show OwnL inE 1 2 W8.heap.size W9 (.slice (some ⟨W8.heap.size, 0, none⟩) [x.id].length 1) [x.id] by
                rw [← hW9]
                exact ⟨rfl, .inr ⟨W8.heap.size, 1, _, rfl, Nat.le_refl _, heap_alloc_new W8 _, by simp, by unfold maxLen; omega, by simp [inE], by simp [inE]⟩⟩)
              rw [show W8.alloc (.cells #[.int .i64 x.id] 2) = W9 from hW9]
              clear hW9
              refine wpAny_ready (rs := [9]) (by kernel_rfl) (by simp) ?_
              refine AllReady.cons rfl (fun K hK => ?_) AllReady.nil
              refine step_appL Try.i64Elem W9 (by rfl) (.tmp 55) (.tmp 58) (by rfl) W8.heap.size W8.heap.size 1 [x.id] (by rfl) HON.out (some ⟨g1, if c1 = q then 0 else q, none⟩) (c1 - q) (l.drop q) ?v1 (by rw [List.drop_eq_nil_of_le (by omega)]; intro k x hx; simp at hx) (by rw [hdl]; unfold maxLen; simp; omega) (by rw [hdl]; simp; omega) HB9.out.size ?_
              case v1 => rw [hdl]; go_simp; by_cases hcq : c1 = l.length <;> simp_all
              intro g2 c2 wA hoA hgA hatA
              have HBA := Lib.hid (show Below w.heap.size w wA from (cur_step1 (cur_step1 (cur_step1 HB66.out HB7'.out) HB8.out) HB9.out).grown hgA (cur_step1 (cur_step1 (cur_step1 HB66.out HB7'.out) HB8.out) HB9.out).size (fun b hb => by injection hb with hb; have := (cur_step1 (cur_step1 HB66.out HB7'.out) HB8.out).size; omega))
              have HPA := Lib.hid (own_grown (own_below (own_below HPRE.out HB8.out (Nat.le_refl _)) HB9.out (Nat.le_refl _)) hgA (fun b hb e => by
                injection e with e
                have h1 := (own_range (own_below HPRE.out HB8.out (Nat.le_refl _)) b hb).2
                omega))
              have HRA2 := Lib.hid (show Rd inE 1 wA wA.heap.size (some ⟨g2, 0, none⟩) ([x.id] ++ l.drop q) from by
                obtain ⟨A, c, e, hr, _⟩ := OwnL.rd inE_len hoA
                injection e with e1 _ e3
                subst e1
                exact hr)
              clear hoA hgA hatA
              refine hK _ _ ?_
              clear hK K
              go_simp
              refine wpAny_ready (rs := [10]) (by kernel_rfl) (by simp) ?_
              refine AllReady.cons rfl (fun K hK => ?_) AllReady.nil
              refine step_appL Try.i64Elem wA (by rfl) (.tmp 52) (.tmp 59) (by rfl) w.heap.size g1 c1 (l.take q) ?v2 (by rw [htl]; exact HPA.out) (some ⟨g2, 0, none⟩) c2 ([x.id] ++ l.drop q) (by go_simp) HRA2.out (by rw [htl]; unfold maxLen; simp; omega) (by rw [htl]; simp; omega) HBA.out.size ?_
              case v2 => rw [htl]; go_simp
              intro g4 c4 wB hoB hgB _
              have HBB := Lib.hid (show Below w.heap.size w wB from HBA.out.grown hgB HBA.out.size (fun b hb => by injection hb with hb; have := (own_range HPA.out g1 rfl).1; omega))
              have HOB := Lib.hid hoB
              clear hoB hgB
              refine hK _ _ ?_
              clear hK K
              go_simp
              refine wpAny_ready (rs := [11]) (by kernel_rfl) (by simp) ?_
              refine AllReady.cons rfl (fun K hK => ?_) AllReady.nil
              go_simp
              refine hK _ _ ?_
              clear hK K
              refine wpAny_done (by kernel_rfl) ?_ _
              have HLN := Lib.hid (show (insI l x.id).length = l.length + 1 by rw [HIN.out]; simp; omega)
              rw [← HIN.out] at HOB
              rw [HLN.out] at HOB
              go_wp2_with (fail)
              refine ⟨⟨j + 1, g4, c4, hjl, rfl, by rw [HNL.out, HLN.out], ?_, HBB.out⟩, by show f.l.length - (j + 1) < f.l.length - j; omega⟩
              rw [HNL.out]
              exact HOB.out
        · have hje : j = f.l.length := by omega
          have HLF := Lib.hid (show insL [] (flI (fl.take (k + 1))) = l by rw [HNX.out, ← HL.out, show f.l.take j = f.l from by rw [hje]; exact List.take_length])
          go_wp2_with (fail)
          refine ⟨⟨k + 1, g1, c1, by rw [H3.out]; omega, rfl, by rw [HLF.out], ?_, HB.out⟩, by show 3 - (k + 1) < 3 - k; omega⟩
          rw [HLF.out]
          exact HO.out
    · have HPF := Lib.hid (show insL [] (flI fl) = P0 by rw [← HP0.out, show fl.take k = fl from by rw [show k = fl.length by rw [H3.out]; omega]; exact List.take_length])
      go_wp2_with (fail)
      go_ret
      rw [HPF.out]
      exact ⟨⟨g, c, rfl, HO.out⟩, HB.out⟩
end Go.Proofs.Ytimmlffgokgekaa
