/-
  Chapter 55: the law AppointSound: the walk.
-/
import Derived.Test.YtckbhdokfkabfaaLawCh55
import Derived.Test.YtckbhdokfkabfaaAcP55
import Derived.Test.YtckbhdokfkabfaaRfP55
import Derived.Test.YtckbhdokfkabfaaPlC55
import Derived.Test.YtckbhdokfkabfaaEq55
set_option linter.unusedSimpArgs false
set_option linter.unusedVariables false
namespace Go.Proofs.Ytckbhdokfkabfaa
open Go.RowKit
set_option maxRecDepth 100000
set_option maxHeartbeats 8000000
theorem law_sound (A B C D : Option Addr) (c d e g : Nat) (M : List Dty) (U : List Ump) (L : List Apd) (N : List Int) (w : World) (hM : Rd dtE 4 w w.heap.size A M) (hms : ∀ x ∈ M, DtS x) (hmc : M.length ≤ c) (hcm : c ≤ 9223372036854775807) (hU : Rd umE 3 w w.heap.size B U) (hus : ∀ y ∈ U, RawU w y) (hud : U.length ≤ d) (hdm : d ≤ 9223372036854775807) (hL : Rd apE 3 w w.heap.size C L) (hls : ∀ z ∈ L, z.one.size ≤ 9223372036854775807 ∧ z.two.size ≤ 9223372036854775807) (hle : L.length ≤ e) (hem : e ≤ 9223372036854775807) (hN : Rd iE 1 w w.heap.size D N) (hng : N.length ≤ g) (hgm : g ≤ 9223372036854775807) :
    Calls Try.prog 9 #[.agg #[.slice A M.length c, .slice B U.length d], .slice C L.length e, .slice D N.length g] w fun e w' => e = .returned (.bool true) ∧ Below w.heap.size w w' := by
  obtain ⟨M', hM'⟩ : ∃ L, M.take 4 = L := ⟨_, rfl⟩
  obtain ⟨U', hU'⟩ : ∃ L, fewU U = L := ⟨_, rfl⟩
  have HS := Lib.hid (fun w' => short_p C e L w' hle hem)
  obtain ⟨L', hL'⟩ : ∃ K, L.take 6 = K := ⟨_, rfl⟩
  obtain ⟨N', hN'⟩ : ∃ K, N.take 6 = K := ⟨_, rfl⟩
  have HF := Lib.hid (show ∀ w1, Below w.heap.size w w1 → Calls Try.prog 11 #[.agg #[.slice A M.length c, .slice B U.length d]] w1 fun e w' => (∃ B' d', e = .returned (.agg (tsE A M'.length c B' U'.length d').toArray) ∧ TaskR w' A B' M' U') ∧ Below w1.heap.size w1 w' from fun w1 hb => by
    have h := few_p A B c d M U w1 (hM.to hb) hms hmc hcm (hU.to hb) (fun y hy => (hus y hy).to hb) hud hdm
    rw [hM', hU'] at h
    exact h)
  have HL := Lib.hid (show Rd apE 3 w w.heap.size C L' by rw [← hL']; exact hL.pre 6)
  have HN := Lib.hid (show Rd iE 1 w w.heap.size D N' by rw [← hN']; exact hN.pre 6)
  have HLS := Lib.hid (show ∀ z ∈ L', z.one.size ≤ 9223372036854775807 ∧ z.two.size ≤ 9223372036854775807 from fun z hz => hls z (List.mem_of_mem_take (by rw [hL']; exact hz)))
  have hnl : L'.length = min 6 L.length := by rw [← hL', List.length_take]
  have hnn : min N.length 6 = N'.length := by rw [← hN']; simp; omega
  have HNL := Lib.hid (show L'.length ≤ 1000 by omega)
  have HNN := Lib.hid (show N'.length ≤ 1000 by omega)
  have hle2 : L'.length ≤ e := by omega
  obtain ⟨r, hr⟩ : ∃ r, accF M' U' L' = r := ⟨_, rfl⟩
  have HCK := Lib.hid hr
  obtain ⟨n, hn⟩ : ∃ n, M.length = n := ⟨_, rfl⟩
  obtain ⟨m, hm⟩ : ∃ m, U.length = m := ⟨_, rfl⟩
  obtain ⟨o, ho⟩ : ∃ o, L.length = o := ⟨_, rfl⟩
  obtain ⟨p, hp⟩ : ∃ p, N.length = p := ⟨_, rfl⟩
  rw [hn, hm] at HF
  rw [ho, hL'] at HS
  rw [hp] at hnn hng
  rw [hn, hm, ho, hp]
  have hmin : min (p : Int) 6 = (N'.length : Nat) := by omega
  have h5 : (N'.length : Int) ≤ g := by omega
  have h6 : ¬ (g : Int) < N'.length := by omega
  clear hM hms hmc hcm hU hus hud hdm hM' hU' hr hn hm hL hL' hls hle hem hnl ho hN hN' hng hgm hnn hp
  go_enter Try.func9, Try.ntmps9
  go_wp2_with fail
  refine (awake_p _).mono ?_
  rintro r1 w1 ⟨rfl, hb1⟩
  have hbx := (Blk.new w 25 [.slice A n c, .slice B m d]).to hb1
  have hb2 := cur_step0 hb1
  have HBX := Lib.hid hbx
  have HB := Lib.hid hb2
  clear hbx hb2 hb1
  go_upto_region 3 with (fail)
  go_cut [1, 2] from 13 to 22 (fun v1 v2 wx => ∃ (B' : Option Addr) (d' : Nat), v1 = .slice C L'.length e ∧ v2 = .slice D N'.length g ∧ Blk wx w.heap.size 25 [.slice A M'.length c, .slice B' U'.length d'] ∧ TaskR wx A B' M' U' ∧ Below w.heap.size w wx)
  case first =>
    refine wp_region_any (by kernel_rfl) ?_
    have HBD := Lib.hid (show Below w.heap.size w w1.drew from HB.out.drew)
    have HXD := Lib.hid (show Blk w1.drew w.heap.size 25 [.slice A n c, .slice B m d] from HBX.out)
    obtain ⟨wd, hwd⟩ : ∃ W, w1.drew = W := ⟨_, rfl⟩
    change wpAny _ _ _ _ _ _ _ w1.drew
    rw [hwd] at HBD HXD ⊢
    clear hwd HBX HB
    refine wpAny_take (i := 2) (v := ?_) rfl (by kernel_rfl) (by kernel_rfl) (by kernel_rfl) (fun _ _ _ h => h) (Or.inl ⟨by rfl, ?_⟩) ?_
    rotate_left
    · intro w'
      go_simp
      try with_reducible rfl
    refine wpAny_take (i := 4) (v := ?_) rfl (by kernel_rfl) (by kernel_rfl) (by kernel_rfl) (fun _ _ _ h => h) (Or.inl ⟨by rfl, ?_⟩) ?_
    rotate_left
    · intro w'
      go_simp
      try with_reducible rfl
    refine wpAny_take (i := 5) (v := ?_) rfl (by kernel_rfl) (by kernel_rfl) (by kernel_rfl) (fun _ _ _ h => h) (Or.inl ⟨by rfl, ?_⟩) ?_
    rotate_left
    · intro w'
      go_simp
      try with_reducible rfl
    refine wpAny_take (i := 6) (v := ?_) rfl (by kernel_rfl) (by kernel_rfl) (by kernel_rfl) (fun _ _ _ h => h) (Or.inl ⟨by rfl, ?_⟩) ?_
    rotate_left
    · intro w'
      go_simp
      try with_reducible rfl
    refine wpAny_take (i := 7) (v := ?_) rfl (by kernel_rfl) (by kernel_rfl) (by kernel_rfl) (fun _ _ _ h => h) (Or.inl ⟨by rfl, ?_⟩) ?_
    rotate_left
    · intro w'
      go_simp
      try with_reducible rfl
    refine wpAny_take (i := 8) (v := ?_) rfl (by kernel_rfl) (by kernel_rfl) (by kernel_rfl) (fun _ _ _ h => h) (Or.inl ⟨by rfl, ?_⟩) ?_
    rotate_left
    · intro w'
      go_simp
      try with_reducible rfl
    refine wpAny_ready (rs := [0]) (by kernel_rfl) (by simp) ?_
    refine AllReady.cons rfl (fun K hK => ?_) (AllReady.nil)
    refine step_loadC rfl 25 (.tmp 3) rfl w.heap.size (by rfl) 25 _ _ _ HXD.out Try.underlying25 rfl (by kernel_rfl) ?_
    refine hK _ _ ?_
    clear hK K
    refine wpAny_ready (rs := [1]) (by kernel_rfl) (by simp) ?_
    refine AllReady.cons rfl (fun K hK => ?_) (AllReady.nil)
    go_simp
    refine (HF.out _ HBD.out).mono ?_
    rintro r2 w2 ⟨⟨B', d', rfl, ht⟩, hb2⟩
    have HT := Lib.hid ht
    have hx2 := HXD.out.to hb2
    have d0 : w2.cell? ⟨w.heap.size, 0, none⟩ = some (.slice A n c) := hx2.cell 0
    have d1 : w2.cell? ⟨w.heap.size, 1, none⟩ = some (.slice B m d) := hx2.cell 1
    have f0 := hx2.frozen 0
    have f1 := hx2.frozen 1
    have HX3 := Lib.hid (show Blk ((w2.setCell ⟨w.heap.size, 0, none⟩ (.slice A M'.length c)).setCell ⟨w.heap.size, 1, none⟩ (.slice B' U'.length d')) w.heap.size 25 [.slice A M'.length c, .slice B' U'.length d'] from (hx2.set 0 (.slice A M'.length c)).set 1 (.slice B' U'.length d'))
    have HB3 := Lib.hid (below_set (below_set (cur_step1 HBD.out hb2) (Nat.le_refl _) 0 (.slice A M'.length c)) (Nat.le_refl _) 1 (.slice B' U'.length d'))
    have HT3 := Lib.hid (show TaskR ((w2.setCell ⟨w.heap.size, 0, none⟩ (.slice A M'.length c)).setCell ⟨w.heap.size, 1, none⟩ (.slice B' U'.length d')) A B' M' U' from HT.out.box hx2 (fun j u hu => by match j, hu with | 0, hu => exact ⟨_, _, _, (Option.some.inj hu).symm⟩ | 1, hu => exact ⟨_, _, _, (Option.some.inj hu).symm⟩ | j + 2, hu => simp at hu) ((Far.cell w2 w.heap.size 0 (.slice A M'.length c)).trans (Far.cell _ w.heap.size 1 (.slice B' U'.length d')) (fun x hx => Or.inl hx)))
    dsimp only [tsE]
    refine hK _ _ ?_
    clear hK K ht hb2 hx2 HT HF HXD HBD
    refine wpAny_ready (rs := [3]) (by kernel_rfl) (by simp) ?_
    refine AllReady.cons rfl (fun K hK => ?_) (AllReady.nil)
    go_simp
    refine (HS.out _).mono ?_
    rintro r3 w9 ⟨rfl, hw9⟩
    subst hw9
    refine hK _ _ ?_
    clear hK K
    refine wpAny_ready (rs := [9]) (by kernel_rfl) (by simp) ?_
    refine AllReady.cons rfl (fun K hK => ?_) (AllReady.nil)
    go_simp
    refine hK _ _ ?_
    clear hK K d0 d1 f0 f1
    generalize (w2.setCell ⟨w.heap.size, 0, none⟩ (.slice A M'.length c)).setCell ⟨w.heap.size, 1, none⟩ (.slice B' U'.length d') = w3 at HX3 HB3 HT3 ⊢
    refine wpAny_ready (rs := [10]) (by kernel_rfl) (by simp) ?_
    refine AllReady.cons rfl (fun K hK => ?_) AllReady.nil
    go_simp
    refine hK _ _ ?_
    clear hK K
    refine wpAny_ready (rs := [11]) (by kernel_rfl) (by simp) ?_
    refine AllReady.cons rfl (fun K hK => ?_) AllReady.nil
    go_simp
    refine hK _ _ ?_
    clear hK K
    refine wpAny_done (by kernel_rfl) ?_ _
    go_wp2_with (fail)
    go_meet
    case rel => exact ⟨B', d', rfl, rfl, HX3.out, HT3.out, HB3.out⟩
  case rest =>
    obtain ⟨B', d', rfl, rfl, hx3, ht3, hb3⟩ := hcut
    rename World => w3
    have HX3 := Lib.hid hx3
    have HT3 := Lib.hid ht3
    have HB3 := Lib.hid hb3
    have HL3 := Lib.hid (HL.out.to hb3)
    have HN3 := Lib.hid (HN.out.to hb3)
    clear hx3 ht3 hb3 HL HN HF HS HBX HB hmin h5 h6
    clear w1
    have c0 : w3.cell? ⟨w.heap.size, 0, none⟩ = some (.slice A M'.length c) := HX3.out.cell 0
    have c1 : w3.cell? ⟨w.heap.size, 1, none⟩ = some (.slice B' U'.length d') := HX3.out.cell 1
    have hlt := HX3.out.lt
    have HAC := Lib.hid (accept_p A B' C c d' e M' U' L' r w3 HT3.out HL3.out HNL.out HLS.out HCK.out)
    by_cases hr0 : r = 0
    · subst hr0
      obtain ⟨s1, s2, s3, s4⟩ := sound_law HCK.out
      obtain ⟨K, hK⟩ : ∃ K, (appR M' U').1 = K := ⟨_, rfl⟩
      obtain ⟨N0, hN0⟩ : ∃ N, (appR M' U').2.1 = N := ⟨_, rfl⟩
      rw [hK] at s3 s4
      have HKL := Lib.hid s3
      have HLEX := Lib.hid s4
      obtain ⟨q, hq⟩ : ∃ q, refF M' U' N' = q := ⟨_, rfl⟩
      have hq0 : ¬ q = 0 := by rw [← hq]; exact s2 N'
      have hq1 : (q == 0) = false := by simpa using hq0
      have HAP := Lib.hid (fun w' (hb : TaskR w' A B' M' U') => appoint_p A B' c d' M' U' w' hb)
      rw [hK, hN0, s1] at HAP
      have HRF := Lib.hid (fun w' (hb : TaskR w' A B' M' U') (hn : Rd iE 1 w' w'.heap.size D N') => refutes_p A B' D c d' g M' U' N' q w' hb hn HNN.out hq)
      clear s1 s2 s3 s4 hK hN0 hq
      go_upto_region 6 with (go_at_call 24; refine HAC.out.mono ?_; rintro r4 w4 ⟨rfl, hb4⟩)
      have HB4 := Lib.hid (cur_step1 HB3.out hb4)
      have HX4 := Lib.hid (HX3.out.to hb4)
      have HT4 := Lib.hid (HT3.out.to hb4)
      have HL4 := Lib.hid (HL3.out.to hb4)
      have HN4 := Lib.hid (HN3.out.to hb4)
      clear c0 c1 hlt hb4 HAC HX3 HT3 HL3 HN3 HB3 HCK
      clear w3
      have c0 : w4.cell? ⟨w.heap.size, 0, none⟩ = some (.slice A M'.length c) := HX4.out.cell 0
      have c1 : w4.cell? ⟨w.heap.size, 1, none⟩ = some (.slice B' U'.length d') := HX4.out.cell 1
      have hlt := HX4.out.lt
      go_upto_region 7 with (go_at_call 16; refine (HAP.out _ HT4.out).mono ?_; rintro r5 w5 ⟨⟨A1, k1, A2, k2, rfl, hr1, hr2⟩, hb5⟩)
      have HB5 := Lib.hid (cur_step1 HB4.out hb5)
      have HX5 := Lib.hid (HX4.out.to hb5)
      have HT5 := Lib.hid (HT4.out.to hb5)
      have HL5 := Lib.hid (HL4.out.to hb5)
      have HN5 := Lib.hid (HN4.out.to hb5)
      have HK5 := Lib.hid hr1
      clear c0 c1 hlt hb5 hr1 hr2 HAP HX4 HT4 HL4 HN4 HB4
      clear w4
      have c0 : w5.cell? ⟨w.heap.size, 0, none⟩ = some (.slice A M'.length c) := HX5.out.cell 0
      have c1 : w5.cell? ⟨w.heap.size, 1, none⟩ = some (.slice B' U'.length d') := HX5.out.cell 1
      have hlt := HX5.out.lt
      go_wp2_with (go_at_call 21; refine (HRF.out _ HT5.out HN5.out).mono ?_; rintro r6 w6 ⟨rfl, hb6⟩; have HB6 := Lib.hid (cur_step1 HB5.out hb6); have HK6 := Lib.hid (HK5.out.to hb6); have HL6 := Lib.hid (HL5.out.to hb6); clear hb6 c0 c1 hlt HX5 HT5 HN5 HK5 HL5 HRF)
      have hkl := HKL.out
      have hk1000 : K.length ≤ 1000 := by have := HNL.out; omega
      clear hq0 hq1
      go_loopw [51] (fun iv wr => ∃ k : Nat, k ≤ K.length ∧ iv = .int .i64 k ∧ K.take k = L'.take k ∧ Below w6.heap.size w6 wr) (fun i _ => K.length - (intOf i).toNat)
      case atStart => exact ⟨0, by omega, rfl, rfl, Below.refl _ _⟩
      case round =>
        obtain ⟨k, hk, rfl, ht, hb⟩ := hrel
        rename World => wr
        have HT := Lib.hid ht
        have HBR := Lib.hid (cur_step1 HB6.out hb)
        have HB := Lib.hid hb
        clear ht hb
        by_cases hlt : k < K.length
        · have hlm : k < L'.length := by omega
          obtain ⟨⟨xm, xo, xt⟩, hx⟩ : ∃ x, K[k]? = some x := ⟨_, List.getElem?_eq_getElem hlt⟩
          obtain ⟨⟨ym, yo, yt⟩, hy⟩ : ∃ y, L'[k]? = some y := ⟨_, List.getElem?_eq_getElem hlm⟩
          obtain ⟨b1, o1, rfl, hb1, hc1⟩ := HK6.out.at_ HB.out hx
          obtain ⟨b2, o2, rfl, hb2, hc2⟩ := HL6.out.at_ HB.out hy
          have HX := Lib.hid hx
          have HY := Lib.hid hy
          have l1 : b1 < wr.heap.size := by have := HB.out.size; omega
          have l2 : b2 < wr.heap.size := by have := HB.out.size; omega
          obtain ⟨p0, p1, p2⟩ := ap_cells hc1
          obtain ⟨q0, q1, q2⟩ := ap_cells hc2
          dsimp only at p0 p1 p2 q0 q1 q2
          have hg := guardAp
          have i1 : (0 : Int) ≤ (k : Int) := by omega
          have i2 : (k : Int) < (K.length : Int) := by omega
          have i3 : (k : Int) < (L'.length : Int) := by omega
          clear hc1 hc2 hx hy hb1 hb2
          by_cases he : (⟨xm, xo, xt⟩ : Apd) = ⟨ym, yo, yt⟩
          · have kn : ∀ w : World, (binOp .neq 43 (.agg #[.int .i64 xm, .string xo, .string xt]) (.agg #[.int .i64 ym, .string yo, .string yt])).run Try.prog w = .ok (.bool false) w := fun w => by rw [neqAp ⟨xm, xo, xt⟩ ⟨ym, yo, yt⟩ w, eqAp_iff, decide_eq_true he]; rfl
            have HE := Lib.hid he
            clear he
            go_wp2_with fail
            go_quiet (fail)
            go_wp2_with fail
            first
            | (go_roundw
               case rel => exact ⟨k + 1, hlt, by simp, by rw [take_next HX.out, take_next HY.out, HT.out, HE.out], below_drewN HB.out _⟩
               case measure => simp [intOf]; omega)
            | exact ⟨⟨k + 1, hlt, by simp, by rw [take_next HX.out, take_next HY.out, HT.out, HE.out], below_drewN HB.out _⟩, by simp [intOf]; omega⟩
          · have kn : ∀ w : World, (binOp .neq 43 (.agg #[.int .i64 xm, .string xo, .string xt]) (.agg #[.int .i64 ym, .string yo, .string yt])).run Try.prog w = .ok (.bool true) w := fun w => by rw [neqAp ⟨xm, xo, xt⟩ ⟨ym, yo, yt⟩ w, eqAp_iff, decide_eq_false he]; rfl
            have hlx := HLEX.out k _ _ HT.out HX.out HY.out he
            dsimp only at hlx
            have es1 := slt_to xo yo
            clear he
            go_wp2_with fail
            go_quiet (fail)
            go_wp2_with fail
            clear kn hg
            have p1 : (wr.drewN 1).cell? ⟨b1, o1 + k * 3 + 1, none⟩ = some (.string xo) := p1
            have p2 : (wr.drewN 1).cell? ⟨b1, o1 + k * 3 + 2, none⟩ = some (.string xt) := p2
            have q1 : (wr.drewN 1).cell? ⟨b2, o2 + k * 3 + 1, none⟩ = some (.string yo) := q1
            have q2 : (wr.drewN 1).cell? ⟨b2, o2 + k * 3 + 2, none⟩ = some (.string yt) := q2
            rcases hlx with h1 | ⟨h1, h2⟩
            · rw [h1] at es1
              go_quiet (fail)
              go_wp2_with fail
              go_ret
              exact ⟨rfl, below_drewN (below_drewN HBR.out _) _⟩
            · subst h1
              have es2 := seq_to xo xo
              have es3 := slt_to xt yt
              rw [slt_irr] at es1
              rw [seq_eq.2 rfl] at es2
              rw [h2] at es3
              go_quiet (fail)
              go_wp2_with fail
              go_ret
              exact ⟨rfl, below_drewN (below_drewN HBR.out _) _⟩
        · go_wp2_with fail
          go_ret
          exact ⟨rfl, HBR.out⟩
    · have hr1 : (r != 0) = true := by simpa using hr0
      go_wp2_with (go_at_call 24; refine HAC.out.mono ?_; rintro r4 w4 ⟨rfl, hb4⟩; have HB4 := Lib.hid (cur_step1 HB3.out hb4); clear hb4)
      go_ret
      exact ⟨rfl, HB4.out⟩
end Go.Proofs.Ytckbhdokfkabfaa
