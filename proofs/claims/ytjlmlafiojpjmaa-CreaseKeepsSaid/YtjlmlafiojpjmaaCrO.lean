/-
  Chapter 12: own, with any lists.
-/
import Derived.Test.YtjlmlafiojpjmaaCrB
import Derived.Deep.DeepCutAuto
import Derived.Deep.CutBlock
set_option linter.unusedSimpArgs false
set_option linter.unusedVariables false
namespace Go.Proofs.Ytjlmlafiojpjmaa
open Go.RowKit

set_option maxRecDepth 100000 in
set_option maxHeartbeats 4000000 in
theorem own_f (I : Inn) (V : Ls) (w : World) (hl : I.Few) (hV : InnR w V I) :
    Calls Try.prog 21 #[I.val V] w fun e w' => ∃ V', e = .returned (I.val V') ∧ InnO w' w.heap.size V' I ∧ Below w.heap.size w w' := by
  obtain ⟨r, wk, st, ot, lb, lbo, lbe, lbd, lsb⟩ := I
  obtain ⟨b, bo, be, bd, sb⟩ := V
  obtain ⟨l1, l2, l3, l4, l5⟩ := hl
  dsimp only at l1 l2 l3 l4 l5
  obtain ⟨r1, r2, r3, r4, r5⟩ := hV
  dsimp only at r1 r2 r3 r4 r5
  have i1 : (innL r wk st ot ⟨b, bo, be, bd, sb⟩)[14]? = some b := rfl
  have i2 : (innL r wk st ot ⟨b, bo, be, bd, sb⟩).toArray[14]? = some b := rfl
  show Calls Try.prog 21 #[innV r wk st ot ⟨b, bo, be, bd, sb⟩] w _
  have R1 := Lib.hid r1
  have R2 := Lib.hid r2
  have R3 := Lib.hid r3
  have R4 := Lib.hid r4
  have R5 := Lib.hid r5
  clear r1 r2 r3 r4 r5
  go_enter Try.func21, Try.ntmps21
  go_wp2_with fail
  obtain ⟨hin, hre, hb0⟩ := entry2 w (innL r wk st ot ⟨b, bo, be, bd, sb⟩) [.int .i64 0, .int .i64 0, .int .i64 0, .int .i64 0, .int .i64 0, .int .i64 0, .int .i64 0, .int .i64 0, .int .i64 0, .int .i64 0, .int .i64 0, .int .i64 0, .int .i64 0, .int .i64 0, .slice none 0 0, .int .i64 0, .slice none 0 0, .slice none 0 0, .bool false, .slice none 0 0, .bool false, .int .i64 0, .int .i64 0, .int .i64 0, .slice none 0 0, .int .i64 0, .int .i64 0, .int .u8 0] 32 32
  generalize (w.alloc (Obj.cells (innL r wk st ot ⟨b, bo, be, bd, sb⟩).toArray 32)).alloc (Obj.cells [.int .i64 0, .int .i64 0, .int .i64 0, .int .i64 0, .int .i64 0, .int .i64 0, .int .i64 0, .int .i64 0, .int .i64 0, .int .i64 0, .int .i64 0, .int .i64 0, .int .i64 0, .int .i64 0, .slice none 0 0, .int .i64 0, .slice none 0 0, .slice none 0 0, .bool false, .slice none 0 0, .bool false, .int .i64 0, .int .i64 0, .int .i64 0, .slice none 0 0, .int .i64 0, .int .i64 0, .int .u8 0].toArray 32) = w0 at hin hre hb0 ⊢
  clear i1 i2
  refine (clone_st b (stC lb) w0 (by rw [stC_len]; omega) (R1.out.to hb0) (stC_one _)).mono ?_
  rintro e w1 ⟨b', rfl, hown, hb1⟩
  have hb00 := hb0.size
  have HW0 : w.heap.size + 1 < w0.heap.size := hre.lt
  have hq := hin.to hb1
  have hre1 := hre.to hb1
  have hb1' := cur_step1 hb0 hb1
  have hlt : w.heap.size + 1 < w1.heap.size := hre1.lt
  have HOB := Lib.hid hown
  have c14 : w1.cell? ⟨w.heap.size, 14, none⟩ = some b := hq.cell 14
  have fz := hq.frozen 14
  have HQ := Lib.hid hq
  have HRE := Lib.hid hre1
  have HB := Lib.hid hb1'
  have HFB := Lib.hid (R1.out.form)
  clear hown hin hre hb1 hb0 hq hre1 hb1'
  obtain ⟨A2, c2, hf2⟩ := HFB.out
  have e2 := hf2.1
  clear HFB
  subst e2
  obtain ⟨A', c', hf'⟩ := own_form HOB.out
  subst hf'
  have HRB := Lib.hid (own_range HOB.out)
  go_upto_region 2 with fail
  have hb1n : ∀ k, (Value.slice A' (stC lb).length c').ownBlock = some k → k ≠ w.heap.size := fun k hk => by have := HRB.out k hk; omega
  have hq2 : Blk (w1.setCell ⟨w.heap.size, 14, none⟩ (.slice A' (stC lb).length c')) w.heap.size 32 (innL r wk st ot ⟨.slice A' (stC lb).length c', bo, be, bd, sb⟩) := HQ.out.set 14 _
  have hre2 := HRE.out.other (g' := w.heap.size) (by omega) 14 (.slice A' (stC lb).length c')
  have hb2 := below_set HB.out (Nat.le_refl _) 14 (.slice A' (stC lb).length c')
  have ho2 := own_other HOB.out hb1n 14 (.slice A' (stC lb).length c')
  have HS2 : (w1.setCell ⟨w.heap.size, 14, none⟩ (.slice A' (stC lb).length c')).heap.size = w1.heap.size := by simp
  clear HOB HQ HRE HB c14 fz hb1n
  generalize w1.setCell ⟨w.heap.size, 14, none⟩ (.slice A' (stC lb).length c') = w2 at hq2 hre2 hb2 ho2 HS2 ⊢
  generalize (Value.slice A' (stC lb).length c') = b' at hq2 ho2 HRB ⊢
  have c16 : w2.cell? ⟨w.heap.size, 16, none⟩ = some bo := hq2.cell 16
  have c17 : w2.cell? ⟨w.heap.size, 17, none⟩ = some be := hq2.cell 17
  have hlt2 : w.heap.size + 1 < w2.heap.size := hre2.lt
  have HQ2 := Lib.hid hq2
  have HRE2 := Lib.hid hre2
  have HB2 := Lib.hid hb2
  have HO2 := Lib.hid ho2
  clear hq2 hre2 hb2 ho2
  go_cut [] from 7 to 14 (fun wx => ∃ Ao co Ae ce, Blk wx w.heap.size 32 (innL r wk st ot ⟨b', .slice Ao (inC lbo).length co, .slice Ae (inC lbe).length ce, bd, sb⟩) ∧ Blk wx (w.heap.size + 1) 32 zeroL ∧ Below w.heap.size w wx ∧ w2.heap.size ≤ wx.heap.size ∧ wx.ownsRow w0.heap.size 50 1 b' (stC lb).length (stC lb) ∧ wx.ownsRow w2.heap.size 3 1 (.slice Ao (inC lbo).length co) (inC lbo).length (inC lbo) ∧ wx.ownsRow w2.heap.size 3 1 (.slice Ae (inC lbe).length ce) (inC lbe).length (inC lbe))
  case first =>
    go_region_with (first
      | (go_at_call 31; refine (clone_in bo (inC lbo) _ (by rw [inC_len]; omega) (R2.out.to HB2.out.drew) (inC_one _)).mono ?_; rintro e wa ⟨bo', rfl, hoa, hba⟩; obtain ⟨Ao, co, rfl⟩ := own_form hoa; have HFO := Lib.hid (own_range hoa); have HOA := Lib.hid hoa; have HBA := Lib.hid (show Below w2.heap.size w2 wa from ((Below.refl w2.heap.size w2).drew).trans hba); have c17a : wa.cell? ⟨w.heap.size, 17, none⟩ = some be := (HBA.out.cell (p := ⟨w.heap.size, 17, none⟩) (show w.heap.size < w2.heap.size by omega)).trans c17; clear hoa hba)
      | (go_at_call 31; refine (clone_in be (inC lbe) _ (by rw [inC_len]; omega) (R3.out.to (cur_step1 HB2.out HBA.out)) (inC_one _)).mono ?_; rintro e wb ⟨be', rfl, hob, hbb⟩; obtain ⟨Ae, ce, rfl⟩ := own_form hob; have HFE := Lib.hid (own_range hob); have HOB := Lib.hid hob; have HBB := Lib.hid hbb; have hqb := (HQ2.out.to HBA.out).to hbb; have c16b : wb.cell? ⟨w.heap.size, 16, none⟩ = some bo := hqb.cell 16; have c17b : wb.cell? ⟨w.heap.size, 17, none⟩ = some be := hqb.cell 17; have f16 := hqb.frozen 16; have f17 := hqb.frozen 17; have hqc := hqb.set 16 (.slice Ao (inC lbo).length co); have d17 : (wb.setCell ⟨w.heap.size, 16, none⟩ (.slice Ao (inC lbo).length co)).cell? ⟨w.heap.size, 17, none⟩ = some be := hqc.cell 17; have g17 := hqc.frozen 17; have HQC := Lib.hid (show Blk ((wb.setCell ⟨w.heap.size, 16, none⟩ (.slice Ao (inC lbo).length co)).setCell ⟨w.heap.size, 17, none⟩ (.slice Ae (inC lbe).length ce)) w.heap.size 32 (innL r wk st ot ⟨b', .slice Ao (inC lbo).length co, .slice Ae (inC lbe).length ce, bd, sb⟩) from hqc.set 17 (.slice Ae (inC lbe).length ce)); clear hob hbb hqb hqc))
    all_goals
      go_wp2_with fail
      go_meet
      case rel =>
        have hW := HBA.out.size
        have hW2 := HBB.out.size
        have hx1 : ∀ k, b'.ownBlock = some k → k ≠ w.heap.size := fun k hk => by have := HRB.out k hk; omega
        have hd : w2.drew.heap.size = w2.heap.size := rfl
        have hx2 : ∀ k, (Value.slice Ao (inC lbo).length co).ownBlock = some k → k ≠ w.heap.size := fun k hk => by have := HFO.out k hk; omega
        have hx3 : ∀ k, (Value.slice Ae (inC lbe).length ce).ownBlock = some k → k ≠ w.heap.size := fun k hk => by have := HFE.out k hk; omega
        refine ⟨Ao, co, Ae, ce, HQC.out, ?_, ?_, ?_, ?_, ?_, ?_⟩
        · exact (((HRE2.out.to HBA.out).to HBB.out).other (by omega) _ _).other (by omega) _ _
        · exact below_set (below_set (cur_step1 (cur_step1 HB2.out HBA.out) HBB.out) (Nat.le_refl _) _ _) (Nat.le_refl _) _ _
        · simp; omega
        · exact own_other (own_other (own_below (own_below HO2.out HBA.out (Nat.le_refl _)) HBB.out (Nat.le_refl _)) hx1 _ _) hx1 _ _
        · exact own_other (own_other (own_below HOA.out HBB.out (Nat.le_refl _)) hx2 _ _) hx2 _ _
        · exact own_mono (own_other (own_other HOB.out hx3 _ _) hx3 _ _) hW
  case rest =>
    obtain ⟨Ao, co, Ae, ce, hq3, hre3, hb3, hs3, ho3, ho4, ho5⟩ := hcut
    generalize hgo : Value.slice Ao (inC lbo).length co = bo' at hq3 ho4
    generalize hge : Value.slice Ae (inC lbe).length ce = be' at hq3 ho5
    clear hgo hge HQ2 HRE2 HB2 HO2 c16 c17
    rename World => w3
    have c19 : w3.cell? ⟨w.heap.size, 19, none⟩ = some bd := hq3.cell 19
    have c24 : w3.cell? ⟨w.heap.size, 24, none⟩ = some sb := hq3.cell 24
    have HQ3 := Lib.hid hq3
    have HRE3 := Lib.hid hre3
    have HB3 := Lib.hid hb3
    have HO3 := Lib.hid ho3
    have HO4 := Lib.hid ho4
    have HO5 := Lib.hid ho5
    have HRO := Lib.hid (own_range ho4)
    have HRP := Lib.hid (own_range ho5)
    have hlt3 : w.heap.size + 1 < w3.heap.size := by omega
    clear hq3 hre3 hb3 ho3 ho4 ho5
    go_upto_region 3 with fail
    go_cut [] from 15 to 22 (fun wx => ∃ Ao co Ae ce, Blk wx w.heap.size 32 (innL r wk st ot ⟨b', bo', be', .slice Ao (inC lbd).length co, .slice Ae (boC lsb).length ce⟩) ∧ Blk wx (w.heap.size + 1) 32 zeroL ∧ Below w.heap.size w wx ∧ w3.heap.size ≤ wx.heap.size ∧ wx.ownsRow w0.heap.size 50 1 b' (stC lb).length (stC lb) ∧ wx.ownsRow w2.heap.size 3 1 bo' (inC lbo).length (inC lbo) ∧ wx.ownsRow w2.heap.size 3 1 be' (inC lbe).length (inC lbe) ∧ wx.ownsRow w3.heap.size 3 1 (.slice Ao (inC lbd).length co) (inC lbd).length (inC lbd) ∧ wx.ownsRow w3.heap.size 4 1 (.slice Ae (boC lsb).length ce) (boC lsb).length (boC lsb))
    case first =>
      go_region_with (first
        | (go_at_call 31; refine (clone_in bd (inC lbd) _ (by rw [inC_len]; omega) (R4.out.to HB3.out.drew) (inC_one _)).mono ?_; rintro e wa ⟨bo', rfl, hoa, hba⟩; obtain ⟨Ao, co, rfl⟩ := own_form hoa; have HFO := Lib.hid (own_range hoa); have HOA := Lib.hid hoa; have HBA := Lib.hid (show Below w3.heap.size w3 wa from ((Below.refl w3.heap.size w3).drew).trans hba); have c17a : wa.cell? ⟨w.heap.size, 24, none⟩ = some sb := (HBA.out.cell (p := ⟨w.heap.size, 24, none⟩) (show w.heap.size < w3.heap.size by omega)).trans c24; clear hoa hba)
        | (go_at_call 32; refine (clone_bo sb (boC lsb) _ (by rw [boC_len]; omega) (R5.out.to (cur_step1 HB3.out HBA.out)) (boC_one _)).mono ?_; rintro e wb ⟨be', rfl, hob, hbb⟩; obtain ⟨Ae, ce, rfl⟩ := own_form hob; have HFE := Lib.hid (own_range hob); have HOB := Lib.hid hob; have HBB := Lib.hid hbb; have hqb := (HQ3.out.to HBA.out).to hbb; have c16b : wb.cell? ⟨w.heap.size, 19, none⟩ = some bd := hqb.cell 19; have c17b : wb.cell? ⟨w.heap.size, 24, none⟩ = some sb := hqb.cell 24; have f16 := hqb.frozen 19; have f17 := hqb.frozen 24; have hqc := hqb.set 19 (.slice Ao (inC lbd).length co); have d17 : (wb.setCell ⟨w.heap.size, 19, none⟩ (.slice Ao (inC lbd).length co)).cell? ⟨w.heap.size, 24, none⟩ = some sb := hqc.cell 24; have g17 := hqc.frozen 24; have HQC := Lib.hid (show Blk ((wb.setCell ⟨w.heap.size, 19, none⟩ (.slice Ao (inC lbd).length co)).setCell ⟨w.heap.size, 24, none⟩ (.slice Ae (boC lsb).length ce)) w.heap.size 32 (innL r wk st ot ⟨b', bo', be', .slice Ao (inC lbd).length co, .slice Ae (boC lsb).length ce⟩) from hqc.set 24 (.slice Ae (boC lsb).length ce)); clear hob hbb hqb hqc))
      all_goals
        go_wp2_with fail
        go_meet
        case rel =>
          have hW := HBA.out.size
          have hW2 := HBB.out.size
          have hd : w3.drew.heap.size = w3.heap.size := rfl
          have hx1 : ∀ k, b'.ownBlock = some k → k ≠ w.heap.size := fun k hk => by have := HRB.out k hk; omega
          have hx2 : ∀ k, bo'.ownBlock = some k → k ≠ w.heap.size := fun k hk => by have := HRO.out k hk; omega
          have hx3 : ∀ k, be'.ownBlock = some k → k ≠ w.heap.size := fun k hk => by have := HRP.out k hk; omega
          have hx4 : ∀ k, (Value.slice Ao (inC lbd).length co).ownBlock = some k → k ≠ w.heap.size := fun k hk => by have := HFO.out k hk; omega
          have hx5 : ∀ k, (Value.slice Ae (boC lsb).length ce).ownBlock = some k → k ≠ w.heap.size := fun k hk => by have := HFE.out k hk; omega
          refine ⟨Ao, co, Ae, ce, HQC.out, ?_, ?_, ?_, ?_, ?_, ?_, ?_, ?_⟩
          · exact (((HRE3.out.to HBA.out).to HBB.out).other (by omega) _ _).other (by omega) _ _
          · exact below_set (below_set (cur_step1 (cur_step1 HB3.out HBA.out) HBB.out) (Nat.le_refl _) _ _) (Nat.le_refl _) _ _
          · simp; omega
          · exact own_other (own_other (own_below (own_below HO3.out HBA.out (Nat.le_refl _)) HBB.out (Nat.le_refl _)) hx1 _ _) hx1 _ _
          · exact own_other (own_other (own_below (own_below HO4.out HBA.out (Nat.le_refl _)) HBB.out (Nat.le_refl _)) hx2 _ _) hx2 _ _
          · exact own_other (own_other (own_below (own_below HO5.out HBA.out (Nat.le_refl _)) HBB.out (Nat.le_refl _)) hx3 _ _) hx3 _ _
          · exact own_other (own_other (own_below HOA.out HBB.out (Nat.le_refl _)) hx4 _ _) hx4 _ _
          · exact own_mono (own_other (own_other HOB.out hx5 _ _) hx5 _ _) hW
    case rest =>
      obtain ⟨Ao, co, Ae, ce, hq5, hre5, hb5, hs5, hp1, hp2, hp3, hp4, hp5⟩ := hcut
      generalize hgo : Value.slice Ao (inC lbd).length co = bd' at hq5 hp4
      generalize hge : Value.slice Ae (boC lsb).length ce = sb' at hq5 hp5
      clear hgo hge HQ3 HRE3 HB3 HO3 HO4 HO5 c19 c24
      rename World => w5
      have HON := Lib.hid (Ls.One.mk (V := ⟨b', bo', be', bd', sb'⟩) (Lst.own hp1).one (Lst.own hp2).one (Lst.own hp3).one (Lst.own hp4).one (Lst.own hp5).one)
      have hbb : ∀ k, b'.ownBlock = some k → bo'.ownBlock ≠ some k ∧ be'.ownBlock ≠ some k ∧ bd'.ownBlock ≠ some k ∧ sb'.ownBlock ≠ some k := fun k hk =>
        have hr := HRB.out k hk
        ⟨fun e => by have := own_range hp2 k e; omega, fun e => by have := own_range hp3 k e; omega, fun e => by have := own_range hp4 k e; omega, fun e => by have := own_range hp5 k e; omega⟩
      have HOO := Lib.hid (InnO.mk (w := w5) (base := w.heap.size) (V := ⟨b', bo', be', bd', sb'⟩) (I := ⟨r, wk, st, ot, lb, lbo, lbe, lbd, lsb⟩) (own_mono hp1 hb00) (own_mono hp2 (by omega)) (own_mono hp3 (by omega)) (own_mono hp4 (by omega)) (own_mono hp5 (by omega)) hbb)
      have HAW := Lib.hid (Ls.Away.mk (V := ⟨b', bo', be', bd', sb'⟩) (g := w.heap.size + 1) (fun k hk => by have := HRB.out k hk; omega) (fun k hk => by have := own_range hp2 k hk; omega) (fun k hk => by have := own_range hp3 k hk; omega) (fun k hk => by have := own_range hp4 k hk; omega) (fun k hk => by have := own_range hp5 k hk; omega))
      have HQ5 := Lib.hid hq5
      have HRE5 := Lib.hid hre5
      have HB5 := Lib.hid hb5
      clear hq5 hp1 hp2 hp3 hp4 hp5 hb5 hre5 hbb
      go_wp2_with (first
        | (refine wpList_load_row rfl 32 _ rfl w.heap.size (by rfl) 32 (innL r wk st ot ⟨b', bo', be', bd', sb'⟩).toArray (0, 0) _ HQ5.out Try.underlying32 rfl inn_info ?_)
        | (refine wpList_storeC rfl _ _ 32 rfl (w.heap.size + 1) 32 zeroL (innL r wk st ot ⟨b', bo', be', bd', sb'⟩).toArray inn_info (by rfl) (by rfl) HRE5.out rfl (inn_one _ _ _ _ HON.out) ?_))
      refine ret_cell (g := w.heap.size + 1) (xs := innL r wk st ot ⟨b', bo', be', bd', sb'⟩) rfl rfl (blk_row HRE5.out _) Try.underlying32 rfl inn_info rfl ?_
      exact ⟨_, rfl, HOO.out.row HAW.out _, row_below HB5.out (by omega) _⟩
end Go.Proofs.Ytjlmlafiojpjmaa
