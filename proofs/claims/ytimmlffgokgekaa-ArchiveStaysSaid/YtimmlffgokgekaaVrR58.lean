/-
  Chapter 58: versions in the reference: Head, Get, Base.
-/
import Derived.Test.YtimmlffgokgekaaVrs58
set_option linter.unusedSimpArgs false
set_option linter.unusedVariables false
namespace Go.Proofs.Ytimmlffgokgekaa
open Go.RowKit
set_option maxRecDepth 100000
set_option maxHeartbeats 4000000
theorem Try.infoVerR : (Try.prog.info? 96).map (fun i => (i.zero, i.size, i.bytes)) = some (some (.agg #[.int .i64 0, .slice none 0 0]), 2, 32) := by kernel_rfl
theorem Try.verElemR : ElemOf Try.prog verE 2 32 58 96 := .mk' Try.infoVerR rfl Try.underlying58 (by decide) verE_len (fun x u hu => by simp [verE] at hu; rcases hu with rfl | rfl <;> rfl)
theorem arR_info : (Try.prog.info? 60).map (·.size) = some 1 := by kernel_rfl
structure RefS (V : Option Addr) (vs : List Vr) (w : World) : Prop where
  row : Rd verE 2 w w.heap.size V vs
  rd : ∀ v ∈ vs, Rd entE 21 w w.heap.size v.a v.l
theorem RefS.to {V : Option Addr} {vs : List Vr} {w w' : World} (h : RefS V vs w) (hb : Below w.heap.size w w') : RefS V vs w' := ⟨h.row.to hb, fun v hv => (h.rd v hv).to hb⟩
theorem head_r (w : World) (V : Option Addr) (n c : Nat) : Calls Try.prog 28 #[.agg #[.slice V n c]] w fun e w' => e = .returned (.int .i64 n) ∧ Below w.heap.size w w' := by
  have HB := Lib.hid (cur_new w (.cells #[.slice V n c] 60))
  go_enter Try.func28, Try.ntmps28
  go_wp2_with (fail)
  go_ret
  exact ⟨rfl, HB.out⟩
theorem get_r (V : Option Addr) (c : Nat) (vs : List Vr) (k : Int) (w : World) (hn : vs.length ≤ 64) (hA : RefS V vs w) :
    Calls Try.prog 30 #[.agg #[.slice V vs.length c], .int .i64 k] w fun e w' => (∃ A c', e = .returned (.tuple #[.slice A (fileV vs k).length c', .int .i64 (chkV vs.length k)]) ∧ Rd entE 21 w' w'.heap.size A (fileV vs k)) ∧ Below w.heap.size w w' := by
  have HA := Lib.hid hA
  clear hA
  obtain ⟨W1, hW1⟩ : ∃ y, w.alloc (.cells #[.slice V vs.length c] 60) = y := ⟨_, rfl⟩
  have HB1 := Lib.hid (show Below w.heap.size w W1 by rw [← hW1]; exact cur_new _ _)
  have HK1 := Lib.hid (show Blk W1 w.heap.size 60 [.slice V vs.length c] by rw [← hW1]; exact Blk.new _ _ _)
  have HA1 := Lib.hid (HA.out.to HB1.out)
  by_cases h1 : 1 ≤ k
  · have hlt : decide (k < 1) = false := decide_eq_false (by omega)
    go_enter Try.func30, Try.ntmps30
    go_upto_region 1 with (fail)
    try rw [hW1]
    clear hW1
    refine wp_region_lit ?_
    (refine wpList_step (fun K hK => ?_); go_simp; refine hK _ _ ?_; clear hK K)
    (refine wpList_step (fun K hK => ?_); go_simp; refine hK _ _ ?_; clear hK K)
    (refine wpList_step (fun K hK => ?_); go_simp; refine hK _ _ ?_; clear hK K)
    (refine wpList_step (fun K hK => ?_); go_simp; refine hK _ _ ?_; clear hK K)
    refine wpList_load_g (by rfl) 60 _ rfl w.heap.size (by rfl) 60 #[.slice V vs.length c] (0, 0) _ HK1.out Try.underlying60 rfl arR_info ?_
    go_wp2_with (fail)
    refine (head_r W1 V vs.length c).mono ?_
    rintro e w2 ⟨rfl, hb2⟩
    have HB2 := Lib.hid (cur_step1 HB1.out hb2)
    have HA2 := Lib.hid (HA1.out.to hb2)
    have HK2 := Lib.hid (HK1.out.to hb2)
    clear hb2
    by_cases h2 : k ≤ (vs.length : Int)
    · have hh : hasB vs.length k = true := by unfold hasB; simp [h1, h2]
      have HC := Lib.hid (show chkV vs.length k = 0 by unfold chkV; rw [if_pos hh])
      obtain ⟨v, hv⟩ : ∃ v, vs[k.toNat - 1]? = some v := ⟨_, List.getElem?_eq_getElem (by omega)⟩
      have HV := Lib.hid (show fileV vs k = v.l by unfold fileV; rw [if_pos hh, hv]; rfl)
      have HRV := Lib.hid (HA2.out.rd v (List.mem_of_getElem? hv))
      obtain ⟨g, o, rfl, hg, hc⟩ := HA2.out.row _ v hv
      have f1 := hc 1 (.slice v.a v.l.length v.c) rfl
      have a0 : w2.cell? ⟨w.heap.size, 0, none⟩ = some (.slice (some ⟨g, o, none⟩) vs.length c) := HK2.out.cell 0
      have hl := HK2.out.lt
      obtain ⟨j, hj⟩ : ∃ j : Nat, k = (j : Int) + 1 := ⟨k.toNat - 1, by omega⟩
      subst hj
      have hjn : ((j : Int) + 1).toNat - 1 = j := by omega
      rw [hjn] at f1
      have hjl : j < vs.length := by omega
      have hjk : j < 64 := by omega
      have hgt : decide ((vs.length : Int) < (j : Int) + 1) = false := decide_eq_false (by omega)
      clear hc hv hh h1 h2
      go_wp2_with (fail)
      go_ret2
      rw [HC.out, HV.out]
      exact ⟨⟨_, _, rfl, HRV.out⟩, HB2.out⟩
    · have hh : hasB vs.length k = false := by unfold hasB; simp [h2]
      have HC := Lib.hid (show chkV vs.length k = 6 by unfold chkV; rw [if_neg (by rw [hh]; decide)])
      have HV := Lib.hid (show fileV vs k = [] by unfold fileV; rw [if_neg (by rw [hh]; decide)])
      have hgt : decide ((vs.length : Int) < k) = true := decide_eq_true (by omega)
      clear hh
      go_wp2_with (fail)
      go_ret2
      rw [HC.out, HV.out]
      exact ⟨⟨none, 0, rfl, Rd.nil_⟩, HB2.out⟩
  · have hh : hasB vs.length k = false := by unfold hasB; simp [h1]
    have HC := Lib.hid (show chkV vs.length k = 6 by unfold chkV; rw [if_neg (by rw [hh]; decide)])
    have HV := Lib.hid (show fileV vs k = [] by unfold fileV; rw [if_neg (by rw [hh]; decide)])
    have hlt : decide (k < 1) = true := decide_eq_true (by omega)
    clear hh
    go_enter Try.func30, Try.ntmps30
    go_wp2_with (fail)
    go_ret2
    rw [HC.out, HV.out]
    first | exact ⟨⟨none, 0, rfl, Rd.nil_⟩, HB1.out⟩ | exact ⟨⟨none, ⟨0, rfl⟩, Rd.nil_⟩, HB1.out⟩
theorem base_r (V : Option Addr) (c : Nat) (vs : List Vr) (k : Int) (w : World) (hn : vs.length ≤ 64) (hA : RefS V vs w) :
    Calls Try.prog 32 #[.agg #[.slice V vs.length c], .int .i64 k] w fun e w' => e = .returned (.tuple #[.int .i64 (baseV vs k), .int .i64 (chkV vs.length k)]) ∧ Below w.heap.size w w' := by
  have HA := Lib.hid hA
  clear hA
  obtain ⟨W1, hW1⟩ : ∃ y, w.alloc (.cells #[.slice V vs.length c] 60) = y := ⟨_, rfl⟩
  have HB1 := Lib.hid (show Below w.heap.size w W1 by rw [← hW1]; exact cur_new _ _)
  have HK1 := Lib.hid (show Blk W1 w.heap.size 60 [.slice V vs.length c] by rw [← hW1]; exact Blk.new _ _ _)
  have HA1 := Lib.hid (HA.out.to HB1.out)
  by_cases h1 : 1 ≤ k
  · have hlt : decide (k < 1) = false := decide_eq_false (by omega)
    go_enter Try.func32, Try.ntmps32
    go_upto_region 1 with (fail)
    try rw [hW1]
    clear hW1
    refine wp_region_lit ?_
    (refine wpList_step (fun K hK => ?_); go_simp; refine hK _ _ ?_; clear hK K)
    (refine wpList_step (fun K hK => ?_); go_simp; refine hK _ _ ?_; clear hK K)
    (refine wpList_step (fun K hK => ?_); go_simp; refine hK _ _ ?_; clear hK K)
    (refine wpList_step (fun K hK => ?_); go_simp; refine hK _ _ ?_; clear hK K)
    refine wpList_load_g (by rfl) 60 _ rfl w.heap.size (by rfl) 60 #[.slice V vs.length c] (0, 0) _ HK1.out Try.underlying60 rfl arR_info ?_
    go_wp2_with (fail)
    refine (head_r W1 V vs.length c).mono ?_
    rintro e w2 ⟨rfl, hb2⟩
    have HB2 := Lib.hid (cur_step1 HB1.out hb2)
    have HA2 := Lib.hid (HA1.out.to hb2)
    have HK2 := Lib.hid (HK1.out.to hb2)
    clear hb2
    by_cases h2 : k ≤ (vs.length : Int)
    · have hh : hasB vs.length k = true := by unfold hasB; simp [h1, h2]
      have HC := Lib.hid (show chkV vs.length k = 0 by unfold chkV; rw [if_pos hh])
      obtain ⟨v, hv⟩ : ∃ v, vs[k.toNat - 1]? = some v := ⟨_, List.getElem?_eq_getElem (by omega)⟩
      have HV := Lib.hid (show baseV vs k = v.base by unfold baseV; rw [if_pos hh, hv]; rfl)
      have HRV := Lib.hid (HA2.out.rd v (List.mem_of_getElem? hv))
      obtain ⟨g, o, rfl, hg, hc⟩ := HA2.out.row _ v hv
      have f1 := hc 0 (.int .i64 v.base) rfl
      rw [Nat.add_zero] at f1
      have a0 : w2.cell? ⟨w.heap.size, 0, none⟩ = some (.slice (some ⟨g, o, none⟩) vs.length c) := HK2.out.cell 0
      have hl := HK2.out.lt
      obtain ⟨j, hj⟩ : ∃ j : Nat, k = (j : Int) + 1 := ⟨k.toNat - 1, by omega⟩
      subst hj
      have hjn : ((j : Int) + 1).toNat - 1 = j := by omega
      rw [hjn] at f1
      have hjl : j < vs.length := by omega
      have hjk : j < 64 := by omega
      have hgt : decide ((vs.length : Int) < (j : Int) + 1) = false := decide_eq_false (by omega)
      clear hc hv hh h1 h2
      go_wp2_with (fail)
      go_ret2
      rw [HC.out, HV.out]
      exact ⟨rfl, HB2.out⟩
    · have hh : hasB vs.length k = false := by unfold hasB; simp [h2]
      have HC := Lib.hid (show chkV vs.length k = 6 by unfold chkV; rw [if_neg (by rw [hh]; decide)])
      have HV := Lib.hid (show baseV vs k = 0 by unfold baseV; rw [if_neg (by rw [hh]; decide)])
      have hgt : decide ((vs.length : Int) < k) = true := decide_eq_true (by omega)
      clear hh
      go_wp2_with (fail)
      go_ret2
      rw [HC.out, HV.out]
      exact ⟨rfl, HB2.out⟩
  · have hh : hasB vs.length k = false := by unfold hasB; simp [h1]
    have HC := Lib.hid (show chkV vs.length k = 6 by unfold chkV; rw [if_neg (by rw [hh]; decide)])
    have HV := Lib.hid (show baseV vs k = 0 by unfold baseV; rw [if_neg (by rw [hh]; decide)])
    have hlt : decide (k < 1) = true := decide_eq_true (by omega)
    clear hh
    go_enter Try.func32, Try.ntmps32
    go_wp2_with (fail)
    go_ret2
    rw [HC.out, HV.out]
    exact ⟨rfl, HB1.out⟩
end Go.Proofs.Ytimmlffgokgekaa
