/-
  Chapter 55: the law AppointBest: the walk.
-/
import Derived.Test.YtckbhdokfkabfaaLawCh55
import Derived.Test.YtckbhdokfkabfaaCpQ55
import Derived.Test.YtckbhdokfkabfaaEq55
set_option linter.unusedSimpArgs false
set_option linter.unusedVariables false
namespace Go.Proofs.Ytckbhdokfkabfaa
open Go.RowKit
set_option maxRecDepth 100000
set_option maxHeartbeats 8000000
theorem app_lens2 (M : List Dty) (U : List Ump) : (appR M U).1.length ≤ M.length ∧ (appR M U).2.1.length ≤ M.length := by
  unfold appR
  split
  · exact ⟨by simp, by simp⟩
  · split
    · refine ⟨by simp, ?_⟩
      show (numsD M U _).length ≤ _
      unfold numsD outI
      rw [List.length_map]
      refine Nat.le_trans (List.length_filter_le _ _) ?_
      rw [List.length_range]
      exact List.length_filter_le _ _
    · exact ⟨by simp, by simp⟩
theorem law_best (A B : Option Addr) (c d : Nat) (M : List Dty) (U : List Ump) (w : World) (hM : Rd dtE 4 w w.heap.size A M) (hms : ∀ x ∈ M, DtS x) (hmc : M.length ≤ c) (hcm : c ≤ 9223372036854775807) (hU : Rd umE 3 w w.heap.size B U) (hus : ∀ y ∈ U, RawU w y) (hud : U.length ≤ d) (hdm : d ≤ 9223372036854775807) :
    Calls Try.prog 4 #[.agg #[.slice A M.length c, .slice B U.length d]] w fun e w' => e = .returned (.bool true) ∧ Below w.heap.size w w' := by
  obtain ⟨M', hM'⟩ : ∃ L, M.take 4 = L := ⟨_, rfl⟩
  obtain ⟨U', hU'⟩ : ∃ L, fewU U = L := ⟨_, rfl⟩
  have HF := Lib.hid (show ∀ w1, Below w.heap.size w w1 → Calls Try.prog 11 #[.agg #[.slice A M.length c, .slice B U.length d]] w1 fun e w' => (∃ B' d', e = .returned (.agg (tsE A M'.length c B' U'.length d').toArray) ∧ TaskR w' A B' M' U') ∧ Below w1.heap.size w1 w' from fun w1 hb => by
    have h := few_p A B c d M U w1 (hM.to hb) hms hmc hcm (hU.to hb) (fun y hy => (hus y hy).to hb) hud hdm
    rw [hM', hU'] at h
    exact h)
  have hM4 : M'.length ≤ 10 := by rw [← hM', List.length_take]; omega
  obtain ⟨n, hn⟩ : ∃ n, M.length = n := ⟨_, rfl⟩
  obtain ⟨m, hm⟩ : ∃ m, U.length = m := ⟨_, rfl⟩
  rw [hn, hm] at HF
  rw [hn, hm]
  clear hM hms hmc hcm hU hus hud hdm hM' hU' hn hm
  go_enter Try.func4, Try.ntmps4
  go_wp2_with fail
  refine (awake_p _).mono ?_
  rintro r1 w1 ⟨rfl, hb1⟩
  have hbx := (Blk.new w 25 [.slice A n c, .slice B m d]).to hb1
  have hb2 := cur_step0 hb1
  have c0 : w1.cell? ⟨w.heap.size, 0, none⟩ = some (.slice A n c) := hbx.cell 0
  have c1 : w1.cell? ⟨w.heap.size, 1, none⟩ = some (.slice B m d) := hbx.cell 1
  have HBX := Lib.hid hbx
  have HB := Lib.hid hb2
  clear hbx hb2 hb1
  go_upto_region 4 with (first
    | (go_at_call 11; refine (HF.out _ HB.out).mono ?_; rintro r2 w2 ⟨⟨B', d', rfl, ht⟩, hb2⟩; have HT := Lib.hid ht; clear ht; have hx2 := HBX.out.to hb2; have d0 : w2.cell? ⟨w.heap.size, 0, none⟩ = some (.slice A n c) := hx2.cell 0; have d1 : w2.cell? ⟨w.heap.size, 1, none⟩ = some (.slice B m d) := hx2.cell 1; have f0 := hx2.frozen 0; have f1 := hx2.frozen 1; unfold tsE))
  have HX3 := Lib.hid (show Blk ((w2.setCell ⟨w.heap.size, 0, none⟩ (.slice A M'.length c)).setCell ⟨w.heap.size, 1, none⟩ (.slice B' U'.length d')) w.heap.size 25 [.slice A M'.length c, .slice B' U'.length d'] from (hx2.set 0 (.slice A M'.length c)).set 1 (.slice B' U'.length d'))
  have HB3 := Lib.hid (below_set (below_set (cur_step1 HB.out hb2) (Nat.le_refl _) 0 (.slice A M'.length c)) (Nat.le_refl _) 1 (.slice B' U'.length d'))
  have hT3 : TaskR ((w2.setCell ⟨w.heap.size, 0, none⟩ (.slice A M'.length c)).setCell ⟨w.heap.size, 1, none⟩ (.slice B' U'.length d')) A B' M' U' := HT.out.box hx2 (fun j u hu => by match j, hu with | 0, hu => exact ⟨_, _, _, (Option.some.inj hu).symm⟩ | 1, hu => exact ⟨_, _, _, (Option.some.inj hu).symm⟩ | j + 2, hu => simp at hu) ((Far.cell w2 w.heap.size 0 (.slice A M'.length c)).trans (Far.cell _ w.heap.size 1 (.slice B' U'.length d')) (fun x hx => Or.inl hx))
  have HT3 := Lib.hid hT3
  generalize (w2.setCell ⟨w.heap.size, 0, none⟩ (.slice A M'.length c)).setCell ⟨w.heap.size, 1, none⟩ (.slice B' U'.length d') = w3 at HX3 HB3 HT3 hT3 ⊢
  clear hT3 HT HB HBX HF hx2 d0 d1 f0 f1 c0 c1 hb2
  clear w1
  have c0 : w3.cell? ⟨w.heap.size, 0, none⟩ = some (.slice A M'.length c) := HX3.out.cell 0
  have c1 : w3.cell? ⟨w.heap.size, 1, none⟩ = some (.slice B' U'.length d') := HX3.out.cell 1
  have hlt := HX3.out.lt
  obtain ⟨K, hK⟩ : ∃ K, (appR M' U').1 = K := ⟨_, rfl⟩
  obtain ⟨N, hN⟩ : ∃ N, (appR M' U').2.1 = N := ⟨_, rfl⟩
  obtain ⟨f, hf⟩ : ∃ f, (appR M' U').2.2 = f := ⟨_, rfl⟩
  have HAP := Lib.hid (appoint_p A B' c d' M' U' w3 HT3.out)
  rw [hK, hN, hf] at HAP
  have HAQ := Lib.hid (fun w' (hb : Below w3.heap.size w3 w') => appoint_q A B' c d' M' U' w' (HT3.out.to hb) hM4)
  rw [hK, hN, hf] at HAQ
  have HLN := Lib.hid (show K.length ≤ 1000 ∧ N.length ≤ 1000 by
    have h1 := app_lens2 M' U'
    have h2 := HT3.out.ml
    rw [hK, hN] at h1
    omega)
  clear hK hN hf
  go_upto_region 5 with (go_at_call 16; refine HAP.out.mono ?_; rintro r4 w4 ⟨⟨A1, k1, A2, k2, rfl, hr1, hr2⟩, hb4⟩)
  have HB4 := Lib.hid hb4
  have HK4 := Lib.hid hr1
  have HN4 := Lib.hid hr2
  have c0 : w4.cell? ⟨w.heap.size, 0, none⟩ = some (.slice A M'.length c) := (HX3.out.to hb4).cell 0
  have c1 : w4.cell? ⟨w.heap.size, 1, none⟩ = some (.slice B' U'.length d') := (HX3.out.to hb4).cell 1
  have hlt := (HX3.out.to hb4).lt
  clear hb4 hr1 hr2
  go_upto_region 6 with (go_at_call 17; refine (HAQ.out w4 HB4.out).mono ?_; rintro r5 w5 ⟨⟨A3, k3, A4, k4, rfl, hr1, hr2⟩, hb5⟩)
  have HB5 := Lib.hid (cur_step1 HB3.out (cur_step1 HB4.out hb5))
  have HK5 := Lib.hid (HK4.out.to hb5)
  have HN5 := Lib.hid (HN4.out.to hb5)
  have HKR := Lib.hid hr1
  have HNR := Lib.hid hr2
  clear hb5 hr1 hr2 c0 c1 hlt
  have HQ1 := Lib.hid (eq_ap A1 A3 k1 k3 K K w5 (by have := HLN.out; omega) (by have := HLN.out; omega) HK5.out HKR.out)
  rw [decide_eq_true rfl] at HQ1
  have HQ2 := Lib.hid (fun w' (hb : Below w5.heap.size w5 w') => eq_i A2 A4 k2 k4 N N w' (by have := HLN.out; omega) (by have := HLN.out; omega) (HN5.out.to hb) (HNR.out.to hb))
  rw [decide_eq_true rfl] at HQ2
  go_wp2_with (first
    | (go_at_call 18; refine HQ1.out.mono ?_; rintro r6 w6 ⟨rfl, hb6⟩; have HB6 := Lib.hid hb6; clear hb6)
    | (go_at_call 19; refine (HQ2.out w6 HB6.out).mono ?_; rintro r7 w7 ⟨rfl, hb7⟩; have HB7 := Lib.hid (cur_step1 HB5.out (cur_step1 HB6.out hb7)); clear hb7))
  go_ret
  exact ⟨by simp, HB7.out⟩
end Go.Proofs.Ytckbhdokfkabfaa
