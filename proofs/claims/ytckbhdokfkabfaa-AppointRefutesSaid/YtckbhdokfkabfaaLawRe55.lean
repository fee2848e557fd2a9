/-
  Chapter 55: the law AppointRefutes: the walk.
-/
import Derived.Test.YtckbhdokfkabfaaLawCh55
import Derived.Test.YtckbhdokfkabfaaRfP55
import Derived.Test.YtckbhdokfkabfaaRfR55
set_option linter.unusedSimpArgs false
set_option linter.unusedVariables false
namespace Go.Proofs.Ytckbhdokfkabfaa
open Go.RowKit
set_option maxRecDepth 100000
set_option maxHeartbeats 8000000
theorem law_refutes (A B C : Option Addr) (c d e : Nat) (M : List Dty) (U : List Ump) (N : List Int) (w : World) (hM : Rd dtE 4 w w.heap.size A M) (hms : ∀ x ∈ M, DtS x) (hmc : M.length ≤ c) (hcm : c ≤ 9223372036854775807) (hU : Rd umE 3 w w.heap.size B U) (hus : ∀ y ∈ U, RawU w y) (hud : U.length ≤ d) (hdm : d ≤ 9223372036854775807) (hN : Rd iE 1 w w.heap.size C N) (hne : N.length ≤ e) (hem : e ≤ 9223372036854775807) :
    Calls Try.prog 6 #[.agg #[.slice A M.length c, .slice B U.length d], .slice C N.length e] w fun e w' => e = .returned (.bool true) ∧ Below w.heap.size w w' := by
  obtain ⟨M', hM'⟩ : ∃ L, M.take 4 = L := ⟨_, rfl⟩
  obtain ⟨U', hU'⟩ : ∃ L, fewU U = L := ⟨_, rfl⟩
  obtain ⟨N', hN'⟩ : ∃ L, N.take 6 = L := ⟨_, rfl⟩
  have HF := Lib.hid (show ∀ w1, Below w.heap.size w w1 → Calls Try.prog 11 #[.agg #[.slice A M.length c, .slice B U.length d]] w1 fun e w' => (∃ B' d', e = .returned (.agg (tsE A M'.length c B' U'.length d').toArray) ∧ TaskR w' A B' M' U') ∧ Below w1.heap.size w1 w' from fun w1 hb => by
    have h := few_p A B c d M U w1 (hM.to hb) hms hmc hcm (hU.to hb) (fun y hy => (hus y hy).to hb) hud hdm
    rw [hM', hU'] at h
    exact h)
  have HN := Lib.hid (show Rd iE 1 w w.heap.size C N' by rw [← hN']; exact hN.pre 6)
  have hnl : min N.length 6 = N'.length := by rw [← hN']; simp; omega
  have HNL := Lib.hid (show N'.length ≤ 1000 by omega)
  obtain ⟨r, hr⟩ : ∃ r, refF M' U' N' = r := ⟨_, rfl⟩
  have HCK := Lib.hid hr
  obtain ⟨n, hn⟩ : ∃ n, M.length = n := ⟨_, rfl⟩
  obtain ⟨m, hm⟩ : ∃ m, U.length = m := ⟨_, rfl⟩
  obtain ⟨o, ho⟩ : ∃ o, N.length = o := ⟨_, rfl⟩
  rw [hn, hm] at HF
  rw [ho] at hnl hne
  rw [hn, hm, ho]
  have hmin : min (o : Int) 6 = (N'.length : Nat) := by omega
  have h5 : (N'.length : Int) ≤ e := by omega
  have h6 : ¬ (e : Int) < N'.length := by omega
  have HL := Lib.hid (show (N'.length : Int) ≤ 1000 by have := HNL.out; omega)
  clear hM hms hmc hcm hU hus hud hdm hM' hU' hr hn hm hN hN' ho
  go_enter Try.func6, Try.ntmps6
  go_wp2_with fail
  refine (awake_p _).mono ?_
  rintro e w1 ⟨rfl, hb1⟩
  have hbx := (Blk.new w 25 [.slice A n c, .slice B m d]).to hb1
  have hb2 := cur_step0 hb1
  have HBX := Lib.hid hbx
  have HB := Lib.hid hb2
  clear hbx hb2 hb1
  go_upto_region 3 with (fail)
  refine wp_region_any (by kernel_rfl) ?_
  have HBD := Lib.hid (show Below w.heap.size w w1.drew from HB.out.drew)
  have HXD := Lib.hid (show Blk w1.drew w.heap.size 25 [.slice A n c, .slice B m d] from HBX.out)
  obtain ⟨wd, hwd⟩ : ∃ W, w1.drew = W := ⟨_, rfl⟩
  change wpAny _ _ _ _ _ _ _ w1.drew
  rw [hwd] at HBD HXD ⊢
  clear hwd HBX HB
  refine wpAny_take (i := 2) (v := ?_) rfl (by kernel_rfl) (by kernel_rfl) (by kernel_rfl) (fun _ _ _ h => h) (Or.inl ⟨by rfl, ?_⟩) ?_
  rotate_left
  · intro w'
    go_simp
    try with_reducible rfl
  refine wpAny_take (i := 3) (v := ?_) rfl (by kernel_rfl) (by kernel_rfl) (by kernel_rfl) (fun _ _ _ h => h) (Or.inl ⟨by rfl, ?_⟩) ?_
  rotate_left
  · intro w'
    go_simp
    try with_reducible rfl
  refine wpAny_take (i := 4) (v := ?_) rfl (by kernel_rfl) (by kernel_rfl) (by kernel_rfl) (fun _ _ _ h => h) (Or.inl ⟨by rfl, ?_⟩) ?_
  rotate_left
  · intro w'
    go_simp
    try with_reducible rfl
  refine wpAny_take (i := 5) (v := ?_) rfl (by kernel_rfl) (by kernel_rfl) (by kernel_rfl) (fun _ _ _ h => h) (Or.inl ⟨by rfl, ?_⟩) ?_
  rotate_left
  · intro w'
    go_simp
    try with_reducible rfl
  refine wpAny_take (i := 6) (v := ?_) rfl (by kernel_rfl) (by kernel_rfl) (by kernel_rfl) (fun _ _ _ h => h) (Or.inl ⟨by rfl, ?_⟩) ?_
  rotate_left
  · intro w'
    go_simp
    try with_reducible rfl
  refine wpAny_ready (rs := [0]) (by kernel_rfl) (by simp) ?_
  refine AllReady.cons rfl (fun K hK => ?_) AllReady.nil
  refine step_loadC rfl 25 (.tmp 2) rfl w.heap.size (by rfl) 25 _ _ _ HXD.out Try.underlying25 rfl (by kernel_rfl) ?_
  refine hK _ _ ?_
  clear hK K
  refine wpAny_ready (rs := [1]) (by kernel_rfl) (by simp) ?_
  refine AllReady.cons rfl (fun K hK => ?_) AllReady.nil
  go_simp
  refine (HF.out _ HBD.out).mono ?_
  rintro e w2 ⟨⟨B', d', rfl, ht⟩, hb2⟩
  have HT := Lib.hid ht
  have hx2 := HXD.out.to hb2
  have d0 : w2.cell? ⟨w.heap.size, 0, none⟩ = some (.slice A n c) := hx2.cell 0
  have d1 : w2.cell? ⟨w.heap.size, 1, none⟩ = some (.slice B m d) := hx2.cell 1
  have f0 := hx2.frozen 0
  have f1 := hx2.frozen 1
  have HX3 := Lib.hid (show Blk ((w2.setCell ⟨w.heap.size, 0, none⟩ (.slice A M'.length c)).setCell ⟨w.heap.size, 1, none⟩ (.slice B' U'.length d')) w.heap.size 25 [.slice A M'.length c, .slice B' U'.length d'] from (hx2.set 0 (.slice A M'.length c)).set 1 (.slice B' U'.length d'))
  have HB3 := Lib.hid (below_set (below_set (cur_step1 HBD.out hb2) (Nat.le_refl _) 0 (.slice A M'.length c)) (Nat.le_refl _) 1 (.slice B' U'.length d'))
  have HT3 := Lib.hid (show TaskR ((w2.setCell ⟨w.heap.size, 0, none⟩ (.slice A M'.length c)).setCell ⟨w.heap.size, 1, none⟩ (.slice B' U'.length d')) A B' M' U' from HT.out.box hx2 (fun j u hu => by match j, hu with | 0, hu => exact ⟨_, _, _, (Option.some.inj hu).symm⟩ | 1, hu => exact ⟨_, _, _, (Option.some.inj hu).symm⟩ | j + 2, hu => simp at hu) ((Far.cell w2 w.heap.size 0 (.slice A M'.length c)).trans (Far.cell _ w.heap.size 1 (.slice B' U'.length d')) (fun x hx => Or.inl hx)))
  dsimp only [tsE]
  refine hK _ _ ?_
  clear hK K ht hb2 hx2 HT HF HXD HBD
  refine wpAny_ready (rs := [7]) (by kernel_rfl) (by simp) ?_
  refine AllReady.cons rfl (fun K hK => ?_) AllReady.nil
  go_simp
  refine hK _ _ ?_
  clear hK K d0 d1 f0 f1
  generalize (w2.setCell ⟨w.heap.size, 0, none⟩ (.slice A M'.length c)).setCell ⟨w.heap.size, 1, none⟩ (.slice B' U'.length d') = w3 at HX3 HB3 HT3 ⊢
  refine wpAny_ready (rs := [8]) (by kernel_rfl) (by simp) ?_
  refine AllReady.cons rfl (fun K hK => ?_) AllReady.nil
  go_simp
  refine hK _ _ ?_
  clear hK K
  refine wpAny_done (by kernel_rfl) ?_ _
  have c0 : w3.cell? ⟨w.heap.size, 0, none⟩ = some (.slice A M'.length c) := HX3.out.cell 0
  have c1 : w3.cell? ⟨w.heap.size, 1, none⟩ = some (.slice B' U'.length d') := HX3.out.cell 1
  have hlt := HX3.out.lt
  have HN3 := Lib.hid (HN.out.to HB3.out)
  clear hmin h5 h6 HN
  clear w1
  go_upto_region 4 with (fail)
  go_region_held3 (fun w' => w'.cell? ⟨w.heap.size, 0, none⟩ = some (.slice A M'.length c) ∧ w'.cell? ⟨w.heap.size, 1, none⟩ = some (.slice B' U'.length d'))
    (first
      | (go_keep; done)
      | exact ⟨HX4.out.cell 0, HX4.out.cell 1⟩
      | exact ⟨HX5.out.cell 0, HX5.out.cell 1⟩)
    ((first
      | (go_at_call 21; refine (refutes_p A B' C c d' e M' U' N' r w3.drew (HT3.out.to (Below.refl _ _).drew) (HN3.out.to (Below.refl _ _).drew) HNL.out HCK.out).mono ?_; rintro e w4 ⟨rfl, hb4⟩; have HB4 := Lib.hid (cur_step1 HB3.out.drew hb4); have HX4 := Lib.hid (Blk.to (w := w3.drew) HX3.out hb4); have HT4 := Lib.hid ((HT3.out.to (Below.refl _ _).drew).to hb4); have HN4 := Lib.hid ((HN3.out.to (Below.refl _ _).drew).to hb4); clear hb4)
      | (go_at_call 22; refine (refutes_r A B' C c d' e M' U' N' r w4 HT4.out HN4.out HNL.out HCK.out).mono ?_; rintro e w5 ⟨rfl, hb5⟩; have HB5 := Lib.hid (cur_step1 HB4.out hb5); have HX5 := Lib.hid (HX4.out.to hb5); clear hb5)))
  go_wp2_with fail
  go_ret
  exact ⟨rfl, HB5.out⟩
end Go.Proofs.Ytckbhdokfkabfaa
