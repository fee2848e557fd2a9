/-
  Chapter 55: the law AppointProves: the walk.
-/
import Derived.Test.YtckbhdokfkabfaaLawCh55
import Derived.Test.YtckbhdokfkabfaaAcP55
import Derived.Test.YtckbhdokfkabfaaRfP55
import Derived.Test.YtckbhdokfkabfaaPlC55
set_option linter.unusedSimpArgs false
set_option linter.unusedVariables false
namespace Go.Proofs.Ytckbhdokfkabfaa
open Go.RowKit
set_option maxRecDepth 100000
set_option maxHeartbeats 8000000
theorem nmU_size {U : List Ump} (h : ∀ y ∈ U, UmS y) (i : Int) : (nmU U i).size ≤ 9223372036854775807 := by
  unfold nmU
  cases e : U[i.toNat]? with
  | none => exact (by decide : (⟨#[]⟩ : ByteArray).size ≤ 9223372036854775807)
  | some y => exact (h y (List.mem_of_getElem? e)).1
theorem app_sizes {M : List Dty} {U : List Ump} (h : ∀ y ∈ U, UmS y) : ∀ z ∈ (appR M U).1, z.one.size ≤ 9223372036854775807 ∧ z.two.size ≤ 9223372036854775807 := by
  unfold appR
  split
  · intro z hz; simp at hz
  · split
    · intro z hz; simp at hz
    · intro z hz
      obtain ⟨x, _, rfl⟩ := List.mem_map.1 hz
      exact ⟨nmU_size h _, nmU_size h _⟩
theorem app_lens (M : List Dty) (U : List Ump) : (appR M U).1.length ≤ M.length ∧ (appR M U).2.1.length ≤ M.length := by
  unfold appR
  split
  · exact ⟨by simp, by simp⟩
  · split
    · refine ⟨by simp, ?_⟩
      show (numsD M U _).length ≤ _
      unfold numsD outI
      rw [List.length_map]
      refine Nat.le_trans (List.length_filter_le _ _) ?_
      rw [List.length_range]
      exact List.length_filter_le _ _
    · exact ⟨by simp, by simp⟩
theorem law_proves (A B : Option Addr) (c d : Nat) (M : List Dty) (U : List Ump) (w : World) (hM : Rd dtE 4 w w.heap.size A M) (hms : ∀ x ∈ M, DtS x) (hmc : M.length ≤ c) (hcm : c ≤ 9223372036854775807) (hU : Rd umE 3 w w.heap.size B U) (hus : ∀ y ∈ U, RawU w y) (hud : U.length ≤ d) (hdm : d ≤ 9223372036854775807) :
    Calls Try.prog 8 #[.agg #[.slice A M.length c, .slice B U.length d]] w fun e w' => e = .returned (.bool true) ∧ Below w.heap.size w w' := by
  obtain ⟨M', hM'⟩ : ∃ L, M.take 4 = L := ⟨_, rfl⟩
  obtain ⟨U', hU'⟩ : ∃ L, fewU U = L := ⟨_, rfl⟩
  have HF := Lib.hid (show ∀ w1, Below w.heap.size w w1 → Calls Try.prog 11 #[.agg #[.slice A M.length c, .slice B U.length d]] w1 fun e w' => (∃ B' d', e = .returned (.agg (tsE A M'.length c B' U'.length d').toArray) ∧ TaskR w' A B' M' U') ∧ Below w1.heap.size w1 w' from fun w1 hb => by
    have h := few_p A B c d M U w1 (hM.to hb) hms hmc hcm (hU.to hb) (fun y hy => (hus y hy).to hb) hud hdm
    rw [hM', hU'] at h
    exact h)
  obtain ⟨n, hn⟩ : ∃ n, M.length = n := ⟨_, rfl⟩
  obtain ⟨m, hm⟩ : ∃ m, U.length = m := ⟨_, rfl⟩
  rw [hn, hm] at HF
  rw [hn, hm]
  clear hM hms hmc hcm hU hus hud hdm hM' hU' hn hm
  go_enter Try.func8, Try.ntmps8
  go_wp2_with fail
  refine (awake_p _).mono ?_
  rintro r1 w1 ⟨rfl, hb1⟩
  have hbx := (Blk.new w 25 [.slice A n c, .slice B m d]).to hb1
  have hb2 := cur_step0 hb1
  have c0 : w1.cell? ⟨w.heap.size, 0, none⟩ = some (.slice A n c) := hbx.cell 0
  have c1 : w1.cell? ⟨w.heap.size, 1, none⟩ = some (.slice B m d) := hbx.cell 1
  have HBX := Lib.hid hbx
  have HB := Lib.hid hb2
  clear hbx hb2 hb1
  go_upto_region 4 with (first
    | (go_at_call 11; refine (HF.out _ HB.out).mono ?_; rintro r2 w2 ⟨⟨B', d', rfl, ht⟩, hb2⟩; have HT := Lib.hid ht; clear ht; have hx2 := HBX.out.to hb2; have d0 : w2.cell? ⟨w.heap.size, 0, none⟩ = some (.slice A n c) := hx2.cell 0; have d1 : w2.cell? ⟨w.heap.size, 1, none⟩ = some (.slice B m d) := hx2.cell 1; have f0 := hx2.frozen 0; have f1 := hx2.frozen 1; unfold tsE))
  have HX3 := Lib.hid (show Blk ((w2.setCell ⟨w.heap.size, 0, none⟩ (.slice A M'.length c)).setCell ⟨w.heap.size, 1, none⟩ (.slice B' U'.length d')) w.heap.size 25 [.slice A M'.length c, .slice B' U'.length d'] from (hx2.set 0 (.slice A M'.length c)).set 1 (.slice B' U'.length d'))
  have HB3 := Lib.hid (below_set (below_set (cur_step1 HB.out hb2) (Nat.le_refl _) 0 (.slice A M'.length c)) (Nat.le_refl _) 1 (.slice B' U'.length d'))
  have hT3 : TaskR ((w2.setCell ⟨w.heap.size, 0, none⟩ (.slice A M'.length c)).setCell ⟨w.heap.size, 1, none⟩ (.slice B' U'.length d')) A B' M' U' := HT.out.box hx2 (fun j u hu => by match j, hu with | 0, hu => exact ⟨_, _, _, (Option.some.inj hu).symm⟩ | 1, hu => exact ⟨_, _, _, (Option.some.inj hu).symm⟩ | j + 2, hu => simp at hu) ((Far.cell w2 w.heap.size 0 (.slice A M'.length c)).trans (Far.cell _ w.heap.size 1 (.slice B' U'.length d')) (fun x hx => Or.inl hx))
  have HT3 := Lib.hid hT3
  generalize (w2.setCell ⟨w.heap.size, 0, none⟩ (.slice A M'.length c)).setCell ⟨w.heap.size, 1, none⟩ (.slice B' U'.length d') = w3 at HX3 HB3 HT3 hT3 ⊢
  clear hT3 HT HB HBX HF hx2 d0 d1 f0 f1 c0 c1 hb2
  clear w1
  have c0 : w3.cell? ⟨w.heap.size, 0, none⟩ = some (.slice A M'.length c) := HX3.out.cell 0
  have c1 : w3.cell? ⟨w.heap.size, 1, none⟩ = some (.slice B' U'.length d') := HX3.out.cell 1
  have hlt := HX3.out.lt
  obtain ⟨K, hK⟩ : ∃ K, (appR M' U').1 = K := ⟨_, rfl⟩
  obtain ⟨N, hN⟩ : ∃ N, (appR M' U').2.1 = N := ⟨_, rfl⟩
  obtain ⟨f, hf⟩ : ∃ f, (appR M' U').2.2 = f := ⟨_, rfl⟩
  have HAP := Lib.hid (appoint_p A B' c d' M' U' w3 HT3.out)
  rw [hK, hN, hf] at HAP
  have HLAW := Lib.hid (proves_law M' U')
  rw [hK, hN, hf] at HLAW
  have HKS := Lib.hid (app_sizes (M := M') (fun y hy => HT3.out.us y hy))
  rw [hK] at HKS
  have HLN := Lib.hid (show K.length ≤ 1000 ∧ N.length ≤ 1000 by
    have h1 := app_lens M' U'
    have h2 := HT3.out.ml
    rw [hK, hN] at h1
    omega)
  clear hK hN hf
  go_upto_region 5 with (go_at_call 16; refine HAP.out.mono ?_; rintro r4 w4 ⟨⟨A1, k1, A2, k2, rfl, hr1, hr2⟩, hb4⟩)
  clear c0 c1 hlt
  have HB4 := Lib.hid (cur_step1 HB3.out hb4)
  have HX4 := Lib.hid (HX3.out.to hb4)
  have HT4 := Lib.hid (HT3.out.to hb4)
  have HK4 := Lib.hid hr1
  have HN4 := Lib.hid hr2
  have c0 : w4.cell? ⟨w.heap.size, 0, none⟩ = some (.slice A M'.length c) := HX4.out.cell 0
  have c1 : w4.cell? ⟨w.heap.size, 1, none⟩ = some (.slice B' U'.length d') := HX4.out.cell 1
  have hlt := HX4.out.lt
  clear hb4 hr1 hr2 HAP HT3 HX3 HB3

  by_cases hf0 : f = 0
  · subst hf0
    obtain ⟨e1, e2⟩ := HLAW.out.1 rfl
    subst e1
    have HAC := Lib.hid (accept_p A B' A1 c d' k1 M' U' K 0 w4 HT4.out HK4.out HLN.out.1 HKS.out e2)
    clear e2 HLAW
    go_wp2_with (go_at_call 24; refine HAC.out.mono ?_; rintro r5 w5 ⟨rfl, hb5⟩; have HB5 := Lib.hid (cur_step1 HB4.out hb5); clear hb5)
    go_ret
    exact ⟨rfl, HB5.out⟩
  · by_cases hf1 : f = 13
    · subst hf1
      obtain ⟨e1, e2⟩ := HLAW.out.2.1 rfl
      subst e1
      have HAC := Lib.hid (refutes_p A B' A2 c d' k2 M' U' N 0 w4 HT4.out HN4.out HLN.out.2 e2)
      clear e2 HLAW
      go_wp2_with (go_at_call 21; refine HAC.out.mono ?_; rintro r5 w5 ⟨rfl, hb5⟩; have HB5 := Lib.hid (cur_step1 HB4.out hb5); clear hb5)
      go_ret
      exact ⟨rfl, HB5.out⟩
    · obtain ⟨e1, e2, e3⟩ := HLAW.out.2.2 hf0 hf1
      subst e2
      subst e3
      have HAC := Lib.hid (check_p A B' c d' M' U' f w4 HT4.out e1)
      clear e1 HLAW
      go_wp2_with (go_at_call 14; refine HAC.out.mono ?_; rintro r5 w5 ⟨rfl, hb5⟩; have HB5 := Lib.hid (cur_step1 HB4.out hb5); clear hb5)
      go_ret
      exact ⟨rfl, HB5.out⟩
end Go.Proofs.Ytckbhdokfkabfaa
