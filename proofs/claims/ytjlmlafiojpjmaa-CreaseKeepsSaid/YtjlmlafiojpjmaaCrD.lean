/-
  Chapter 12: dismiss, with any lists.
-/
import Derived.Test.YtjlmlafiojpjmaaCrF
set_option linter.unusedSimpArgs false
set_option linter.unusedVariables false
namespace Go.Proofs.Ytjlmlafiojpjmaa
open Go.RowKit

def Inn.cells (I : Inn) (V : Ls) : List Value := innL I.r I.wk I.st I.ot V
/-- What dismiss leaves alone. -/
structure Dis (w w' : World) (g : Nat) (V : Ls) : Prop where
  keep : ∀ x, x < w.heap.size → x ≠ g → V.b.ownBlock ≠ some x → w'.heap[x]? = w.heap[x]?
  below : ∀ (B : Nat) (a : World), Below B a w → B ≤ g → (∀ k, V.b.ownBlock = some k → B ≤ k) → Below B a w'
theorem InnO.reI {w : World} {base : Nat} {V : Ls} {I J : Inn} (h : InnO w base V I) (h1 : J.b = I.b) (h2 : J.bo = I.bo) (h3 : J.be = I.be) (h4 : J.bd = I.bd) (h5 : J.sb = I.sb) : InnO w base V J :=
  ⟨by rw [h1]; exact h.b, by rw [h2]; exact h.bo, by rw [h3]; exact h.be, by rw [h4]; exact h.bd, by rw [h5]; exact h.sb, h.ne⟩

set_option maxRecDepth 100000 in
set_option maxHeartbeats 1000000 in
theorem dismiss_f (I : Inn) (V : Ls) (p : Int) (g base : Nat) (w : World) (hl : I.Few) (hg : Blk w g 32 (I.cells V)) (ho : InnO w base V I) (ha : V.Away g) :
    Calls Try.prog 24 #[.pointer (some ⟨g, 0, none⟩), .int .i64 p] w fun e w' => e = .returned (.tuple #[]) ∧ Blk w' g 32 ((dismissS I p).cells V) ∧ InnO w' base V (dismissS I p) ∧ Dis w w' g V := by
  have hgl := hg.lt
  have HL := Lib.hid hl
  have HA := Lib.hid ha
  have HRD := Lib.hid ho.rd
  have HLB := Lib.hid hl.b
  by_cases hk : knownS I p = true
  · have hd : dismissS I p = { I with b := I.b.set (p.toNat - 1) 2, wk := wrap64 (I.wk + 1) } := by unfold dismissS; rw [if_pos hk]
    rw [hd]
    have hk' := hk
    unfold knownS at hk'
    simp at hk'
    obtain ⟨P, rfl⟩ : ∃ P : Nat, p = P + 1 := ⟨p.toNat - 1, by omega⟩
    have hP : P < I.b.length := by omega
    have hP2 : ((P : Int) + 1).toNat - 1 = P := by omega
    rw [hP2]
    obtain ⟨b, c, hV, hc, hbb, hbl⟩ := ho.blk (by omega)
    have hbg : b ≠ g := ha.b b (by rw [hV]; rfl)
    have hb := ho.b
    rw [hV, stC_len] at hb
    have cp := hb.cellAt P (by omega)
    obtain ⟨u, hu⟩ : ∃ u, (stC I.b)[P]? = some u := ⟨_, List.getElem?_eq_getElem (by rw [stC_len]; omega)⟩
    rw [hu] at cp
    have fw2 := hb.frozenAt P
    have hg2 := hg
    unfold Inn.cells at hg2
    have c14 : w.cell? ⟨g, 14, none⟩ = some (.slice (some ⟨b, 0, none⟩) I.b.length c) := by rw [← hV]; exact hg2.cell 14
    have c4 : w.cell? ⟨g, 4, none⟩ = some (.int .i64 I.wk) := hg2.cell 4
    have fw1 := hg.frozen 4
    have HG := Lib.hid hg
    have HG2 := Lib.hid hg2
    have HO := Lib.hid ho
    have HB := Lib.hid hb
    have HK := Lib.hid hk
    have HV := Lib.hid hV
    obtain ⟨n, hn⟩ : ∃ n, I.b.length = n := ⟨_, rfl⟩
    rw [hn] at hc hP c14
    have hn2 : n ≤ 1000 := by have := HLB.out; omega
    have HN := Lib.hid hn
    clear hg hg2 ho hu ha hl hb hk hk' hd hP2 hV hn
    go_enter Try.func24, Try.ntmps24
    go_wp2_with (first
      | (refine wpList_load_row rfl 32 _ rfl g (by rfl) 32 (innL I.r I.wk I.st I.ot V).toArray (0, 0) _ HG2.out Try.underlying32 rfl inn_info ?_)
      | (go_at_call 23; refine (known_f I V (P + 1) true _ HL.out HRD.out HK.out).mono ?_; rintro e w1 ⟨rfl, hb1⟩; have HB1 := Lib.hid hb1; obtain ⟨cc, cf⟩ := bcell hb1; have f14 := (cf g 4 hgl).trans (HG.out.frozen 4); have fp := (cf b P hbl).trans (HB.out.frozenAt P); have f15 := ((HG.out.to hb1).other (Ne.symm hbg) P (.int .u8 2)).frozen 4; have c15 : (w1.setCell ⟨b, P, none⟩ (.int .u8 2)).cell? ⟨g, 4, none⟩ = some (.int .i64 I.wk) := ((HG.out.to hb1).other (Ne.symm hbg) P (.int .u8 2)).cell 4))
    go_end0
    refine ⟨rfl, ?_, ?_, ?_, ?_⟩
    · exact ((HG.out.to HB1.out).other (Ne.symm hbg) P _).set 4 (.int .i64 (wrap64 (I.wk + 1)))
    · have h1 := HO.out.to HB1.out
      have h2 := h1.setB HV.out P 2
      have h3 := h2.other HA.out 4 (.int .i64 (wrap64 (I.wk + 1)))
      exact h3.reI rfl rfl rfl rfl rfl
    · intro x hx h1 h2
      rw [heap_setCell_other _ ⟨g, 4, none⟩ x _ h1, heap_setCell_other _ ⟨b, P, none⟩ x _ (fun e => h2 (by rw [e, HV.out]; rfl))]
      exact HB1.out.block x hx
    · intro B a h h1 h2
      exact below_set (below_set (h.trans (HB1.out.mono (by omega))) (h2 b (by rw [HV.out]; rfl)) _ _) h1 _ _
  · have hk : knownS I p = false := by simpa using hk
    have hd : dismissS I p = { I with wk := wrap64 (I.wk + 1) } := by unfold dismissS; rw [hk]; rfl
    rw [hd]
    have hg2 := hg
    unfold Inn.cells at hg2
    have c4 : w.cell? ⟨g, 4, none⟩ = some (.int .i64 I.wk) := hg2.cell 4
    have HG := Lib.hid hg
    have HG2 := Lib.hid hg2
    have HO := Lib.hid ho
    have HK := Lib.hid hk
    clear hg hg2 ho ha hl hk hd
    go_enter Try.func24, Try.ntmps24
    go_wp2_with (first
      | (refine wpList_load_row rfl 32 _ rfl g (by rfl) 32 (innL I.r I.wk I.st I.ot V).toArray (0, 0) _ HG2.out Try.underlying32 rfl inn_info ?_)
      | (go_at_call 23; refine (known_f I V p false _ HL.out HRD.out HK.out).mono ?_; rintro e w1 ⟨rfl, hb1⟩; have HB1 := Lib.hid hb1; have f14 := (HG.out.to hb1).frozen 4; have c15 : w1.cell? ⟨g, 4, none⟩ = some (.int .i64 I.wk) := (HG.out.to hb1).cell 4))
    go_end0
    refine ⟨rfl, ?_, ?_, ?_, ?_⟩
    · exact (HG.out.to HB1.out).set 4 (.int .i64 (wrap64 (I.wk + 1)))
    · have h1 := HO.out.to HB1.out
      have h3 := h1.other HA.out 4 (.int .i64 (wrap64 (I.wk + 1)))
      exact h3.reI rfl rfl rfl rfl rfl
    · intro x hx h1 h2
      rw [heap_setCell_other _ ⟨g, 4, none⟩ x _ h1]
      exact HB1.out.block x hx
    · intro B a h h1 h2
      exact below_set (h.trans (HB1.out.mono (by omega))) h1 _ _
end Go.Proofs.Ytjlmlafiojpjmaa
