/-
  Chapter 55: the law AppointAccepts: the walk.
-/
import Derived.Test.YtckbhdokfkabfaaLawCh55
import Derived.Test.YtckbhdokfkabfaaAcP55
import Derived.Test.YtckbhdokfkabfaaAcR55
set_option linter.unusedSimpArgs false
set_option linter.unusedVariables false
namespace Go.Proofs.Ytckbhdokfkabfaa
open Go.RowKit
set_option maxRecDepth 100000
set_option maxHeartbeats 8000000
theorem law_accepts (A B C : Option Addr) (c d e : Nat) (M : List Dty) (U : List Ump) (L : List Apd) (w : World) (hM : Rd dtE 4 w w.heap.size A M) (hms : ∀ x ∈ M, DtS x) (hmc : M.length ≤ c) (hcm : c ≤ 9223372036854775807) (hU : Rd umE 3 w w.heap.size B U) (hus : ∀ y ∈ U, RawU w y) (hud : U.length ≤ d) (hdm : d ≤ 9223372036854775807) (hL : Rd apE 3 w w.heap.size C L) (hls : ∀ z ∈ L, z.one.size ≤ 9223372036854775807 ∧ z.two.size ≤ 9223372036854775807) (hle : L.length ≤ e) (hem : e ≤ 9223372036854775807) :
    Calls Try.prog 7 #[.agg #[.slice A M.length c, .slice B U.length d], .slice C L.length e] w fun e w' => e = .returned (.bool true) ∧ Below w.heap.size w w' := by
  obtain ⟨M', hM'⟩ : ∃ L, M.take 4 = L := ⟨_, rfl⟩
  obtain ⟨U', hU'⟩ : ∃ L, fewU U = L := ⟨_, rfl⟩
  have HS := Lib.hid (fun w' => short_p C e L w' hle hem)
  obtain ⟨L', hL'⟩ : ∃ K, L.take 6 = K := ⟨_, rfl⟩
  have HF := Lib.hid (show ∀ w1, Below w.heap.size w w1 → Calls Try.prog 11 #[.agg #[.slice A M.length c, .slice B U.length d]] w1 fun e w' => (∃ B' d', e = .returned (.agg (tsE A M'.length c B' U'.length d').toArray) ∧ TaskR w' A B' M' U') ∧ Below w1.heap.size w1 w' from fun w1 hb => by
    have h := few_p A B c d M U w1 (hM.to hb) hms hmc hcm (hU.to hb) (fun y hy => (hus y hy).to hb) hud hdm
    rw [hM', hU'] at h
    exact h)
  have HL := Lib.hid (show Rd apE 3 w w.heap.size C L' by rw [← hL']; exact hL.pre 6)
  have HLS := Lib.hid (show ∀ z ∈ L', z.one.size ≤ 9223372036854775807 ∧ z.two.size ≤ 9223372036854775807 from fun z hz => hls z (List.mem_of_mem_take (by rw [hL']; exact hz)))
  have hnl : L'.length = min 6 L.length := by rw [← hL', List.length_take]
  have HNL := Lib.hid (show L'.length ≤ 1000 by omega)
  have HNE := Lib.hid (show L'.length ≤ e by omega)
  obtain ⟨r, hr⟩ : ∃ r, accF M' U' L' = r := ⟨_, rfl⟩
  have HCK := Lib.hid hr
  obtain ⟨n, hn⟩ : ∃ n, M.length = n := ⟨_, rfl⟩
  obtain ⟨m, hm⟩ : ∃ m, U.length = m := ⟨_, rfl⟩
  obtain ⟨o, ho⟩ : ∃ o, L.length = o := ⟨_, rfl⟩
  rw [hn, hm] at HF
  rw [ho, hL'] at HS
  rw [hn, hm, ho]
  clear hM hms hmc hcm hU hus hud hdm hM' hU' hr hn hm hL hL' hls hle hem hnl ho
  go_enter Try.func7, Try.ntmps7
  go_wp2_with fail
  refine (awake_p _).mono ?_
  rintro r1 w1 ⟨rfl, hb1⟩
  have hbx := (Blk.new w 25 [.slice A n c, .slice B m d]).to hb1
  have hb2 := cur_step0 hb1
  have c0 : w1.cell? ⟨w.heap.size, 0, none⟩ = some (.slice A n c) := hbx.cell 0
  have c1 : w1.cell? ⟨w.heap.size, 1, none⟩ = some (.slice B m d) := hbx.cell 1
  have HBX := Lib.hid hbx
  have HB := Lib.hid hb2
  clear hbx hb2 hb1
  go_upto_region 4 with (first
    | (go_at_call 11; refine (HF.out _ HB.out).mono ?_; rintro r2 w2 ⟨⟨B', d', rfl, ht⟩, hb2⟩; have HT := Lib.hid ht; clear ht; have hx2 := HBX.out.to hb2; have d0 : w2.cell? ⟨w.heap.size, 0, none⟩ = some (.slice A n c) := hx2.cell 0; have d1 : w2.cell? ⟨w.heap.size, 1, none⟩ = some (.slice B m d) := hx2.cell 1; have f0 := hx2.frozen 0; have f1 := hx2.frozen 1; unfold tsE)
    | (go_at_call 23; refine (HS.out _).mono ?_; rintro r3 w3 ⟨rfl, rfl⟩))
  have HX3 := Lib.hid (show Blk ((w2.setCell ⟨w.heap.size, 0, none⟩ (.slice A M'.length c)).setCell ⟨w.heap.size, 1, none⟩ (.slice B' U'.length d')) w.heap.size 25 [.slice A M'.length c, .slice B' U'.length d'] from (hx2.set 0 (.slice A M'.length c)).set 1 (.slice B' U'.length d'))
  have HB3 := Lib.hid (below_set (below_set (cur_step1 HB.out hb2) (Nat.le_refl _) 0 (.slice A M'.length c)) (Nat.le_refl _) 1 (.slice B' U'.length d'))
  have hT3 : TaskR ((w2.setCell ⟨w.heap.size, 0, none⟩ (.slice A M'.length c)).setCell ⟨w.heap.size, 1, none⟩ (.slice B' U'.length d')) A B' M' U' := HT.out.box hx2 (fun j u hu => by match j, hu with | 0, hu => exact ⟨_, _, _, (Option.some.inj hu).symm⟩ | 1, hu => exact ⟨_, _, _, (Option.some.inj hu).symm⟩ | j + 2, hu => simp at hu) ((Far.cell w2 w.heap.size 0 (.slice A M'.length c)).trans (Far.cell _ w.heap.size 1 (.slice B' U'.length d')) (fun x hx => Or.inl hx))
  have HT3 := Lib.hid hT3
  generalize (w2.setCell ⟨w.heap.size, 0, none⟩ (.slice A M'.length c)).setCell ⟨w.heap.size, 1, none⟩ (.slice B' U'.length d') = w3 at HX3 HB3 HT3 hT3 ⊢
  have HL3 := Lib.hid (HL.out.to HB3.out)
  clear hT3 HT HB HBX HF hx2 d0 d1 f0 f1 c0 c1 hb2 HS HL
  clear w1
  have c0 : w3.cell? ⟨w.heap.size, 0, none⟩ = some (.slice A M'.length c) := HX3.out.cell 0
  have c1 : w3.cell? ⟨w.heap.size, 1, none⟩ = some (.slice B' U'.length d') := HX3.out.cell 1
  have hlt := HX3.out.lt
  go_region_held3 (fun w' => w'.cell? ⟨w.heap.size, 0, none⟩ = some (.slice A M'.length c) ∧ w'.cell? ⟨w.heap.size, 1, none⟩ = some (.slice B' U'.length d'))
    (first
      | (go_keep; done)
      | exact ⟨HX4.out.cell 0, HX4.out.cell 1⟩
      | exact ⟨HX5.out.cell 0, HX5.out.cell 1⟩)
    ((first
      | (go_at_call 24; refine (accept_p A B' C c d' e M' U' L' r w3.drew (HT3.out.to (Below.refl _ _).drew) (HL3.out.to (Below.refl _ _).drew) HNL.out HLS.out HCK.out).mono ?_; rintro r4 w4 ⟨rfl, hb4⟩; have HB4 := Lib.hid (cur_step1 HB3.out.drew hb4); have HX4 := Lib.hid (Blk.to (w := w3.drew) HX3.out hb4); have HT4 := Lib.hid ((HT3.out.to (Below.refl _ _).drew).to hb4); have HL4 := Lib.hid ((HL3.out.to (Below.refl _ _).drew).to hb4); clear hb4)
      | (go_at_call 25; refine (accept_r A B' C c d' e M' U' L' r w4 HT4.out HL4.out HNL.out HNE.out HLS.out HCK.out).mono ?_; rintro r5 w5 ⟨rfl, hb5⟩; have HB5 := Lib.hid (cur_step1 HB4.out hb5); have HX5 := Lib.hid (HX4.out.to hb5); clear hb5)))
  go_wp2_with fail
  go_ret
  exact ⟨rfl, HB5.out⟩
end Go.Proofs.Ytckbhdokfkabfaa
