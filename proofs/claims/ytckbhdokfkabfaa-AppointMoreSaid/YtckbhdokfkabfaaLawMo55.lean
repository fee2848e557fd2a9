/-
  Chapter 55: the law AppointMore: the walk.
-/
import Derived.Test.YtckbhdokfkabfaaLawCh55
import Derived.Test.YtckbhdokfkabfaaPlC55
import Derived.Test.YtckbhdokfkabfaaCon55
import Derived.Test.YtckbhdokfkabfaaFec55
set_option linter.unusedSimpArgs false
set_option linter.unusedVariables false
namespace Go.Proofs.Ytckbhdokfkabfaa
open Go.RowKit
set_option maxRecDepth 100000
set_option maxHeartbeats 8000000
theorem rd_drop {α : Type} {enc : α → List Value} {size B b off : Nat} {w : World} {l : List α} (h : Rd enc size w B (some ⟨b, off, none⟩) l) (q : Nat) : Rd enc size w B (some ⟨b, off + q * size, none⟩) (l.drop q) := by
  intro k x hk
  rw [List.getElem?_drop] at hk
  obtain ⟨b', off', e, hl, hc⟩ := h (q + k) x hk
  injection e with e
  injection e with e1 e2 _
  subst e1 e2
  refine ⟨b, off + q * size, rfl, hl, fun j u hu => ?_⟩
  have h1 := hc j u hu
  rwa [show off + (q + k) * size + j = off + q * size + k * size + j by rw [Nat.add_mul]; omega] at h1
theorem concat_u (g k u d' q : Nat) (A2 : Option Addr) (b8 off8 : Nat) (U : List Ump) (w : World) (hu : U.length = u) (hku : k < u) (hq : q = k + 1) (hul : u ≤ 1000) (hr : Rd umE 3 w w.heap.size (some ⟨b8, off8, none⟩) U) (hA : d' = q ∨ A2 = some ⟨b8, off8 + q * 3, none⟩) (hb : Blk w g 23 [.slice (some ⟨b8, off8, none⟩) k d', .slice A2 (u - q) (d' - q)]) (hud : u ≤ d') :
    Calls Try.prog 20 #[.slice (some ⟨g, 0, none⟩) 2 2] w fun e w' => (∃ A9 c9, e = .returned (.slice A9 (lessU U k).length c9) ∧ Rd umE 3 w' w'.heap.size A9 (lessU U k)) ∧ Below w.heap.size w w' := by
  have hfl : [U.take k, U.drop q].flatten = lessU U k := by unfold lessU; rw [hq]; simp
  have hat : sliceAt w g [U.take k, U.drop q] := by
    intro i l hl
    match i, hl with
    | 0, hl =>
      have e : U.take k = l := by simpa using hl
      subst e
      refine ⟨some ⟨b8, off8, none⟩, d', ?_, hr.pre k⟩
      rw [List.length_take, show min k U.length = k by omega]
      exact hb.cell 0
    | 1, hl =>
      have e : U.drop q = l := by simpa using hl
      subst e
      refine ⟨A2, d' - q, ?_, ?_⟩
      · rw [List.length_drop, hu]
        exact hb.cell 1
      · rcases hA with h | h
        · rw [List.drop_eq_nil_of_le (by omega)]
          exact Rd.nil_
        · rw [h]
          exact rd_drop hr q
    | i + 2, hl => simp at hl
  have hlen : (lessU U k).length ≤ 1000 := by unfold lessU; simp; omega
  by_cases h0 : (lessU U k).length = 0
  · refine (concat_z g [U.take k, U.drop q] 2 w rfl (by omega) hb.lt (by rw [hfl]; exact h0) hat).mono ?_
    rintro e w' ⟨rfl, hb'⟩
    have e0 := List.eq_nil_of_length_eq_zero h0
    exact ⟨⟨none, 0, by rw [h0], by rw [e0]; exact Rd.nil_⟩, hb'⟩
  · refine (concat_f g [U.take k, U.drop q] 2 w rfl (by omega) hb.lt (by rw [hfl]; omega) (by rw [hfl]; omega) hat).mono ?_
    rintro e w' ⟨g', c', rfl, ho, hb'⟩
    rw [hfl] at ho
    exact ⟨⟨_, _, by rw [hfl], own_rd umE_len ho⟩, hb'⟩
theorem law_more (A B : Option Addr) (c d : Nat) (M : List Dty) (U : List Ump) (z : Int) (w : World) (hz : 0 ≤ z ∧ z ≤ 255) (hM : Rd dtE 4 w w.heap.size A M) (hms : ∀ x ∈ M, DtS x) (hmc : M.length ≤ c) (hcm : c ≤ 9223372036854775807) (hU : Rd umE 3 w w.heap.size B U) (hus : ∀ y ∈ U, RawU w y) (hud : U.length ≤ d) (hdm : d ≤ 9223372036854775807) :
    Calls Try.prog 5 #[.agg #[.slice A M.length c, .slice B U.length d], .int .u8 z] w fun e w' => e = .returned (.bool true) ∧ Below w.heap.size w w' := by
  obtain ⟨M', hM'⟩ : ∃ L, M.take 4 = L := ⟨_, rfl⟩
  obtain ⟨U', hU'⟩ : ∃ L, fewU U = L := ⟨_, rfl⟩
  have HF := Lib.hid (show ∀ w1, Below w.heap.size w w1 → Calls Try.prog 11 #[.agg #[.slice A M.length c, .slice B U.length d]] w1 fun e w' => (∃ B' d', e = .returned (.agg (tsE A M'.length c B' U'.length d').toArray) ∧ TaskR w' A B' M' U' ∧ U'.length ≤ d' ∧ d' ≤ 9223372036854775807) ∧ Below w1.heap.size w1 w' from fun w1 hb => by
    have h := few_c A B c d M U w1 (hM.to hb) hms hmc hcm (hU.to hb) (fun y hy => (hus y hy).to hb) hud hdm
    rw [hM', hU'] at h
    exact h)
  obtain ⟨n, hn⟩ : ∃ n, M.length = n := ⟨_, rfl⟩
  obtain ⟨m, hm⟩ : ∃ m, U.length = m := ⟨_, rfl⟩
  rw [hn, hm] at HF
  rw [hn, hm]
  clear hM hms hmc hcm hU hus hud hdm hM' hU' hn hm
  go_enter Try.func5, Try.ntmps5
  go_wp2_with fail
  refine (awake_p _).mono ?_
  rintro r1 w1 ⟨rfl, hb1⟩
  have hbx := (Blk.new w 25 [.slice A n c, .slice B m d]).to hb1
  have hb2 := cur_step0 hb1
  have c0 : w1.cell? ⟨w.heap.size, 0, none⟩ = some (.slice A n c) := hbx.cell 0
  have c1 : w1.cell? ⟨w.heap.size, 1, none⟩ = some (.slice B m d) := hbx.cell 1
  have HBX := Lib.hid hbx
  have HB := Lib.hid hb2
  clear hbx hb2 hb1
  go_upto_region 4 with (first
    | (go_at_call 11; refine (HF.out _ HB.out).mono ?_; rintro r2 w2 ⟨⟨B', d', rfl, ht, hdl, hdm⟩, hb2⟩; have HT := Lib.hid ht; clear ht; have hx2 := HBX.out.to hb2; have d0 : w2.cell? ⟨w.heap.size, 0, none⟩ = some (.slice A n c) := hx2.cell 0; have d1 : w2.cell? ⟨w.heap.size, 1, none⟩ = some (.slice B m d) := hx2.cell 1; have f0 := hx2.frozen 0; have f1 := hx2.frozen 1; unfold tsE))
  have HX3 := Lib.hid (show Blk ((w2.setCell ⟨w.heap.size, 0, none⟩ (.slice A M'.length c)).setCell ⟨w.heap.size, 1, none⟩ (.slice B' U'.length d')) w.heap.size 25 [.slice A M'.length c, .slice B' U'.length d'] from (hx2.set 0 (.slice A M'.length c)).set 1 (.slice B' U'.length d'))
  have HB3 := Lib.hid (below_set (below_set (cur_step1 HB.out hb2) (Nat.le_refl _) 0 (.slice A M'.length c)) (Nat.le_refl _) 1 (.slice B' U'.length d'))
  have hT3 : TaskR ((w2.setCell ⟨w.heap.size, 0, none⟩ (.slice A M'.length c)).setCell ⟨w.heap.size, 1, none⟩ (.slice B' U'.length d')) A B' M' U' := HT.out.box hx2 (fun j u hu => by match j, hu with | 0, hu => exact ⟨_, _, _, (Option.some.inj hu).symm⟩ | 1, hu => exact ⟨_, _, _, (Option.some.inj hu).symm⟩ | j + 2, hu => simp at hu) ((Far.cell w2 w.heap.size 0 (.slice A M'.length c)).trans (Far.cell _ w.heap.size 1 (.slice B' U'.length d')) (fun x hx => Or.inl hx))
  have HT3 := Lib.hid hT3
  generalize (w2.setCell ⟨w.heap.size, 0, none⟩ (.slice A M'.length c)).setCell ⟨w.heap.size, 1, none⟩ (.slice B' U'.length d') = w3 at HX3 HB3 HT3 hT3 ⊢
  clear hT3 HT HB HBX HF hx2 d0 d1 f0 f1 c0 c1 hb2
  clear w1
  have hul := HT3.out.ul
  have c0 : w3.cell? ⟨w.heap.size, 0, none⟩ = some (.slice A M'.length c) := HX3.out.cell 0
  have c1 : w3.cell? ⟨w.heap.size, 1, none⟩ = some (.slice B' U'.length d') := HX3.out.cell 1
  have hlt := HX3.out.lt
  by_cases hm0 : U'.length = 0
  · have hm1 : (U'.length : Int) = 0 := by omega
    go_wp2_with (fail)
    go_ret
    exact ⟨rfl, HB3.out⟩
  · obtain ⟨u, hu⟩ : ∃ u, U'.length = u := ⟨_, rfl⟩
    obtain ⟨k, hk⟩ : ∃ k, z.toNat % u = k := ⟨_, rfl⟩
    have hku : k < u := by rw [← hk]; exact Nat.mod_lt _ (by omega)
    have hmod : Int.tmod z u = (k : Int) := by
      rw [Int.tmod_eq_emod_of_nonneg hz.1, ← hk, Int.natCast_emod, Int.toNat_of_nonneg hz.1]
    have HU := Lib.hid hu
    rw [hu] at c1 hdl hul hm0 ⊢
    have hu0 : ¬ (u : Int) = 0 := by omega
    have hz0 := hz.1
    have hz1 := hz.2
    clear hk hu
    go_upto_region 7 with (fail)
    obtain ⟨y0, hy0⟩ : ∃ y, U'[0]? = some y := ⟨_, List.getElem?_eq_getElem (by rw [HU.out]; omega)⟩
    obtain ⟨b8, off8, hB8, hb8, -⟩ := HT3.out.u.rd.at_ (Below.refl _ _) hy0
    have HBE := Lib.hid hB8
    rw [hB8] at c1 ⊢
    have hkd : (k : Int) ≤ (d' : Int) := by omega
    have hkd2 : ¬ (d' : Int) < (k : Int) := by omega
    obtain ⟨q, hq⟩ : ∃ q, k + 1 = q := ⟨_, rfl⟩
    have hwr : IntKind.i64.wrap ((k : Int) + 1) = (q : Int) := by rw [← hq]; simp [IntKind.wrap, IntKind.signed, IntKind.bits]; omega
    have hk0 : (0 : Int) ≤ (k : Int) := by omega
    have hq0 : (0 : Int) ≤ (q : Int) := by omega
    have hqu : (q : Int) ≤ (u : Int) := by omega
    have hqu2 : ¬ (u : Int) < (q : Int) := by omega
    have hud : (u : Int) ≤ (d' : Int) := by omega
    have hud2 : ¬ (d' : Int) < (u : Int) := by omega
    clear hy0 hB8 hb8
    obtain ⟨W, hW⟩ : ∃ W, lessU U' k = W := ⟨_, rfl⟩
    obtain ⟨A2, hA2⟩ : ∃ A2 : Option Addr, A2 = if d' = q then some ⟨b8, off8, none⟩ else some ⟨b8, off8 + q * 3, none⟩ := ⟨_, rfl⟩
    have HCC := Lib.hid (show ∀ (w' : World) (g : Nat), Below w3.heap.size w3 w' → Blk w' g 23 [.slice (some ⟨b8, off8, none⟩) k d', .slice A2 (u - q) (d' - q)] → Calls Try.prog 20 #[.slice (some ⟨g, 0, none⟩) 2 2] w' fun e w'' => (∃ A9 c9, e = .returned (.slice A9 W.length c9) ∧ Rd umE 3 w'' w''.heap.size A9 W) ∧ Below w'.heap.size w' w'' from fun w' g hb hk => by
      have hr := (HT3.out.to hb).u.rd
      rw [HBE.out] at hr
      have h1 := concat_u g k u d' q A2 b8 off8 U' w' HU.out hku hq.symm (by omega) hr (by rw [hA2]; split; exact Or.inl ‹_›; exact Or.inr rfl) hk (by omega)
      rw [hW] at h1
      exact h1)
    have HWF := Lib.hid (show (∀ y ∈ W, y ∈ U') ∧ W.length ≤ U'.length by
      rw [← hW]
      unfold lessU
      exact ⟨fun y hy => (List.mem_append.1 hy).elim (fun h => List.mem_of_mem_take h) (fun h => List.mem_of_mem_drop h), by simp; omega⟩)
    have HML := Lib.hid (fun h => more_law (M := M') (U := U') (k := k) (by rw [HU.out]; exact hku) h)
    rw [hW] at HML
    have HA2 := Lib.hid hA2
    clear hW hq hA2
    go_region_held3 (fun w' => w'.cell? ⟨w.heap.size, 1, none⟩ = some (.slice (some ⟨b8, off8, none⟩) u d'))
      (first
        | (go_keep; done)
        | exact HC5.out)
      ((first
        | (go_at_call 20; rw [← HA2.out]; refine (HCC.out _ w3.heap.size (cur_new _ _).drew (Blk.new w3 _ _)).mono ?_; rintro r5 w5 ⟨⟨A9, c9, rfl, hr9⟩, hb5⟩; have HB5x := Lib.hid (cur_step1 (cur_new w3 _).drew hb5); have HB5 := Lib.hid (cur_step1 HB3.out HB5x.out); have HX5 := Lib.hid (HX3.out.to HB5x.out); have HT5 := Lib.hid (HT3.out.to HB5x.out); have HR5 := Lib.hid hr9; have HC5 := Lib.hid (show w5.cell? ⟨w.heap.size, 1, none⟩ = some (.slice (some ⟨b8, off8, none⟩) u d') from by rw [← HBE.out, ← HU.out]; exact HX5.out.cell 1); clear hr9 hb5)))
    have c0 : w5.cell? ⟨w.heap.size, 0, none⟩ = some (.slice A M'.length c) := HX5.out.cell 0
    have c1 : w5.cell? ⟨w.heap.size, 1, none⟩ = some (.slice (some ⟨b8, off8, none⟩) u d') := HC5.out
    have hlt := HX5.out.lt
    obtain ⟨f1, hf1⟩ : ∃ f, (appR M' W).2.2 = f := ⟨_, rfl⟩
    obtain ⟨f2, hf2⟩ : ∃ f, (appR M' U').2.2 = f := ⟨_, rfl⟩
    rw [hf1, hf2] at HML
    have HT9 := Lib.hid (show TaskR w5 A A9 M' W from ⟨HT5.out.m, ⟨HR5.out, fun y hy => HT5.out.u.ds y (HWF.out.1 y hy)⟩, HT5.out.ms, fun y hy => HT5.out.us y (HWF.out.1 y hy), HT5.out.ml, Nat.le_trans HWF.out.2 HT5.out.ul⟩)
    have HAP1 := Lib.hid (appoint_p A A9 c c9 M' W w5 HT9.out)
    rw [hf1] at HAP1
    have HAP2 := Lib.hid (show ∀ w', Below w5.heap.size w5 w' → Calls Try.prog 16 #[.slice A M'.length c, .slice (some ⟨b8, off8, none⟩) u d'] w' fun e w'' => (∃ A1 c1 A2 c2, e = .returned (.tuple #[.slice A1 (appR M' U').1.length c1, .slice A2 (appR M' U').2.1.length c2, .int .i64 f2])) ∧ Below w'.heap.size w' w'' from fun w' hb => by
      have h1 := appoint_p A B' c d' M' U' w' (HT5.out.to hb)
      rw [HBE.out, HU.out, hf2] at h1
      exact h1.mono fun e w'' h => ⟨by obtain ⟨⟨A1, c1, A2, c2, h1, _⟩, _⟩ := h; exact ⟨A1, c1, A2, c2, h1⟩, h.2⟩)
    have HCK := Lib.hid (show ∀ w' r, Below w5.heap.size w5 w' → ckA M' U' = r → Calls Try.prog 14 #[.slice A M'.length c, .slice (some ⟨b8, off8, none⟩) u d'] w' fun e w'' => e = .returned (.int .i64 r) ∧ Below w'.heap.size w' w'' from fun w' r hb hr => by
      have h1 := check_p A B' c d' M' U' r w' (HT5.out.to hb) hr
      rw [HBE.out, HU.out] at h1
      exact h1)
    clear hf1 hf2
    go_upto_region 9 with (go_at_call 16; refine HAP1.out.mono ?_; rintro r6 w6 ⟨⟨A1, k1, A2', k2, rfl, hr1, hr2⟩, hb6⟩)
    have HB6 := Lib.hid hb6
    have c0 : w6.cell? ⟨w.heap.size, 0, none⟩ = some (.slice A M'.length c) := (HX5.out.to hb6).cell 0
    have c1 : w6.cell? ⟨w.heap.size, 1, none⟩ = some (.slice (some ⟨b8, off8, none⟩) u d') := (hb6.cell (p := ⟨w.heap.size, 1, none⟩) HX5.out.lt).trans HC5.out
    have hlt := (HX5.out.to hb6).lt
    clear hr1 hr2 hb6
    go_upto_region 10 with (go_at_call 16; refine (HAP2.out _ HB6.out).mono ?_; rintro r7 w7 ⟨⟨A3, k3, A4, k4, rfl⟩, hb7⟩)
    have HB7 := Lib.hid (cur_step1 HB6.out hb7)
    have HX7 := Lib.hid (HX5.out.to HB7.out)
    have c0 : w7.cell? ⟨w.heap.size, 0, none⟩ = some (.slice A M'.length c) := HX7.out.cell 0
    have c1 : w7.cell? ⟨w.heap.size, 1, none⟩ = some (.slice (some ⟨b8, off8, none⟩) u d') := (HB7.out.cell (p := ⟨w.heap.size, 1, none⟩) HX5.out.lt).trans HC5.out
    have hlt := HX7.out.lt
    have HBF := Lib.hid (cur_step1 HB5.out HB7.out)
    clear hb7
    by_cases hf1 : f1 = 0
    · subst hf1
      by_cases hf2 : f2 = 0
      · subst hf2
        go_wp2_with (fail)
        go_ret
        exact ⟨rfl, HBF.out⟩
      · have hck := (HML.out rfl).resolve_left hf2
        have hf3 : (f2 == 0) = false := by simpa using hf2
        go_wp2_with (go_at_call 14; refine (HCK.out _ _ HB7.out hck).mono ?_; rintro r8 w8 ⟨rfl, hb8⟩; have HB8 := Lib.hid (cur_step1 HBF.out hb8); clear hb8)
        go_ret
        exact ⟨by simp, HB8.out⟩
    · have hf3 : (f1 != 0) = true := by simpa using hf1
      go_wp2_with (fail)
      go_ret
      exact ⟨rfl, HBF.out⟩
end Go.Proofs.Ytckbhdokfkabfaa
