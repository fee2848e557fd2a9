/-
  Chapter 8: the closure of Text that adds a number's word.
-/
import Derived.Test.YtgkjcapoddjkhaaGreatDoorTxD
import Derived.Test.YtgkjcapoddjkhaaGreatDoorNotW
import Derived.RegionTactic
import Derived.Deep.RegionHeld3
set_option linter.unusedSimpArgs false
set_option linter.unusedVariables false
namespace Go.Proofs.YtgkjcapoddjkhaaGreatDoor
open Go.RowKit
set_option maxRecDepth 100000
set_option maxHeartbeats 4000000
def stE (s : List UInt8) : List Value := [.string (sA s)]
theorem stE_len (s : List UInt8) : (stE s).length = 1 := rfl
theorem Tryz.infoSt : (Tryz.prog.info? 9).map (fun i => (i.zero, i.size, i.bytes)) = some (some (.string ByteArray.empty), 1, 16) := by kernel_rfl
theorem Tryz.stElem : ElemOf Tryz.prog stE 1 16 59 9 := .mk' Tryz.infoSt rfl Tryz.underlying59 (by decide) stE_len (fun x u hu => by simp [stE] at hu; subst hu; rfl)
/-- A box that holds a row of words of the call's own. -/
structure WdS (p base : Nat) (w : World) (l : List (List UInt8)) (A : Option Addr) (c : Nat) : Prop where
  box : Blk w p 59 [.slice A l.length c]
  own : OwnL stE 1 9 base w (.slice A l.length c) l
  ne : (Value.slice A l.length c).ownBlock ≠ some p
theorem WdS.to {p base : Nat} {w w' : World} {l : List (List UInt8)} {A : Option Addr} {c : Nat} (h : WdS p base w l A c) (hb : Below w.heap.size w w') : WdS p base w' l A c := ⟨h.box.to hb, own_below h.own hb (Nat.le_refl _), h.ne⟩
/-- What a step that adds a word leaves alone: all blocks but the box and the row. -/
structure Kp (p : Nat) (v : Value) (w w' : World) : Prop where
  os : w'.os = w.os
  tape : w'.tape = w.tape
  output : w'.output = w.output
  size : w.heap.size ≤ w'.heap.size
  block : ∀ k, k < w.heap.size → k ≠ p → v.ownBlock ≠ some k → w'.heap[k]? = w.heap[k]?
theorem WdS.add {p base : Nat} {wr w0 w1 : World} {l : List (List UInt8)} {A : Option Addr} {c g cap : Nat} {s : List UInt8} (h : WdS p base wr l A c) (hb : Below wr.heap.size wr w0)
    (ha : App w0 w1 base 9 1 (.slice A l.length c) g cap l.length 1 (l.flatMap stE) (stE s)) : WdS p base (w1.setCell ⟨p, 0, none⟩ (.slice (some ⟨g, 0, none⟩) (l.length + 1) cap)) (l ++ [s]) (some ⟨g, 0, none⟩) cap ∧ Kp p (.slice A l.length c) wr (w1.setCell ⟨p, 0, none⟩ (.slice (some ⟨g, 0, none⟩) (l.length + 1) cap)) ∧ Blk w1 p 59 [.slice A l.length c] := by
  have hp := h.box.lt
  have hs := hb.size
  have hgs := ha.grown.size
  have hb1 : Blk w1 p 59 [.slice A l.length c] := by
    have h1 := h.box.to hb
    unfold Blk at h1 ⊢
    rw [ha.grown.block p (by omega) (fun e => h.ne e.symm)]
    exact h1
  have hgp : g ≠ p := by
    intro e
    rcases ha.at_ with h1 | h1
    · rw [e] at h1; exact h.ne h1
    · omega
  have hst := below_set (Below.refl 0 w1) (Nat.zero_le p) 0 (.slice (some ⟨g, 0, none⟩) (l.length + 1) cap)
  refine ⟨⟨?_, ?_, ?_⟩, ⟨?_, ?_, ?_, ?_, ?_⟩, hb1⟩
  · rw [List.length_append]
    exact hb1.set 0 _
  · rw [List.length_append]
    exact own_other (ha.one rfl) (fun k hk e => hgp ((by injection hk : g = k).trans e)) 0 _
  · intro e
    injection e with e
    exact hgp e
  · exact hst.os.trans (ha.grown.os.trans hb.os)
  · exact hst.tape.trans (ha.grown.tape.trans hb.tape)
  · exact hst.output.trans (ha.grown.output.trans hb.output)
  · have := hst.size; omega
  · intro k hk hkp hv
    rw [heap_setCell_other w1 ⟨p, 0, none⟩ k _ hkp, ha.grown.block k (by omega) (fun e => hv e.symm), hb.block k hk]
theorem text1_p (x : Int) (h0 : 0 ≤ x) (h1 : x ≤ 1000000) (p base : Nat) (l : List (List UInt8)) (hl : l.length ≤ 1000) (A : Option Addr) (c : Nat) (w : World) (hw : LibW w) (hW : WdS p base w l A c) (hbase : base ≤ w.heap.size) :
    Calls Tryz.prog 26 #[.int .i64 x, .pointer (some ⟨p, 0, none⟩)] w fun e w' => e = .returned (.tuple #[]) ∧ ∃ A' c', WdS p base w' (l ++ [dcB x]) A' c' ∧ Kp p (.slice A l.length c) w w' := by
  have d0 := hW.box.cell 0
  simp only [List.getElem?_cons_zero] at d0
  have z0 := hW.box.frozen 0
  have hp := hW.box.lt
  have HW := Lib.hid hW
  have HL := Lib.hid hw
  clear hW hw
  go_enter Tryz.func26, Tryz.ntmps26
  obtain ⟨sx, hsx⟩ : ∃ y, dcA x = y := ⟨_, rfl⟩
  have HSX := Lib.hid hsx
  clear hsx
  refine wp_region_any (by kernel_rfl) ?_
  try (change wpAny _ _ _ _ _ _ _ (World.drew _))
  refine wpAny_take (i := 1) (v := ?_) rfl (by kernel_rfl) (by kernel_rfl) (by kernel_rfl) (fun _ _ _ h => h) (Or.inl ⟨by rfl, ?_⟩) ?_
  rotate_left
  · intro w
    go_simp
    try with_reducible rfl
  refine wpAny_ready (rs := [0, 2]) (by kernel_rfl) (by simp) ?_
  refine AllReady.cons rfl (fun K hK => ?_) (AllReady.cons rfl (fun K hK => ?_) AllReady.nil)
  · go_simp
    refine hK _ _ ?_
    clear hK K
    refine wpAny_ready (rs := [2]) (by kernel_rfl) (by simp) ?_
    refine AllReady.cons rfl (fun K hK => ?_) AllReady.nil
    go_simp
    refine (dec_p x h0 (by omega) _ (HL.out.to ((Below.refl w.heap.size w).drew))).mono ?_
    rw [HSX.out]
    rintro e' w3 ⟨rfl, hq3⟩
    have hb3 : Below w.heap.size w w3 := ⟨hq3.os, hq3.tape, hq3.output, hq3.size, hq3.block⟩
    have hd3 : w3.cell? ⟨p, 0, none⟩ = some (.slice A l.length c) := (hb3.cell (p := ⟨p, 0, none⟩) hp).trans d0
    have hp3 : p < w3.heap.size := Nat.lt_of_lt_of_le hp hb3.size
    dsimp only
    refine hK _ _ ?_
    clear hK K
    refine wpAny_ready (rs := [3]) (by kernel_rfl) (by simp) ?_
    refine AllReady.cons rfl (fun K hK => ?_) AllReady.nil
    go_simp
    refine hK _ _ ?_
    clear hK K
    refine wpAny_ready (rs := [4]) (by kernel_rfl) (by simp) ?_
    refine AllReady.cons rfl (fun K hK => ?_) AllReady.nil
    refine step_app1 Tryz.stElem _ (by rfl) (.tmp 3) (.tmp 6) (by rfl) base A c l (by rfl) (World.ownsRow.alloc (own_below HW.out.own hb3 (Nat.le_refl _)) _) (dcB x) w3.heap.size 1 (by rfl) ?hp (by unfold maxLen; omega) (by omega) (by have := hb3.size; rw [World.size_alloc]; omega) ?_
    case hp => rw [show stE (dcB x) = [.string sx] from by rw [← HSX.out]; rfl]; exact heap_alloc_new w3 _
    intro g cap w4 ha
    have hadd := HW.out.add (cur_step1 hb3 (cur_new w3 _)) ha
    have e0 : w4.cell? ⟨p, 0, none⟩ = some (.slice A l.length c) := hadd.2.2.cell 0
    have e1 := hadd.2.2.frozen 0
    have e2 := hadd.2.2.lt
    refine hK _ _ ?_
    clear hK K
    refine wpAny_ready (rs := [5]) (by kernel_rfl) (by simp) ?_
    refine AllReady.cons rfl (fun K hK => ?_) AllReady.nil
    go_simp
    refine hK _ _ ?_
    clear hK K
    refine wpAny_done (by kernel_rfl) ?_ _
    go_wp2_with (fail)
    first | exact ⟨rfl, ⟨_, _, hadd.1⟩, hadd.2.1⟩ | exact ⟨rfl, _, _, hadd.1, hadd.2.1⟩ | (go_end0; first | exact ⟨rfl, ⟨_, _, hadd.1⟩, hadd.2.1⟩ | exact ⟨rfl, _, _, hadd.1, hadd.2.1⟩)
  · go_simp
    refine (dec_p x h0 (by omega) _ (HL.out.to ((Below.refl w.heap.size w).drew))).mono ?_
    rw [HSX.out]
    rintro e' w3 ⟨rfl, hq3⟩
    have hb3 : Below w.heap.size w w3 := ⟨hq3.os, hq3.tape, hq3.output, hq3.size, hq3.block⟩
    have hd3 : w3.cell? ⟨p, 0, none⟩ = some (.slice A l.length c) := (hb3.cell (p := ⟨p, 0, none⟩) hp).trans d0
    have hp3 : p < w3.heap.size := Nat.lt_of_lt_of_le hp hb3.size
    dsimp only
    refine hK _ _ ?_
    clear hK K
    refine wpAny_ready (rs := [0, 3]) (by kernel_rfl) (by simp) ?_
    refine AllReady.cons rfl (fun K hK => ?_) (AllReady.cons rfl (fun K hK => ?_) AllReady.nil)
    · go_simp
      refine hK _ _ ?_
      clear hK K
      refine wpAny_ready (rs := [3]) (by kernel_rfl) (by simp) ?_
      refine AllReady.cons rfl (fun K hK => ?_) AllReady.nil
      go_simp
      refine hK _ _ ?_
      clear hK K
      refine wpAny_ready (rs := [4]) (by kernel_rfl) (by simp) ?_
      refine AllReady.cons rfl (fun K hK => ?_) AllReady.nil
      refine step_app1 Tryz.stElem _ (by rfl) (.tmp 3) (.tmp 6) (by rfl) base A c l (by rfl) (World.ownsRow.alloc (own_below HW.out.own hb3 (Nat.le_refl _)) _) (dcB x) w3.heap.size 1 (by rfl) ?hp (by unfold maxLen; omega) (by omega) (by have := hb3.size; rw [World.size_alloc]; omega) ?_
      case hp => rw [show stE (dcB x) = [.string sx] from by rw [← HSX.out]; rfl]; exact heap_alloc_new w3 _
      intro g cap w4 ha
      have hadd := HW.out.add (cur_step1 hb3 (cur_new w3 _)) ha
      have e0 : w4.cell? ⟨p, 0, none⟩ = some (.slice A l.length c) := hadd.2.2.cell 0
      have e1 := hadd.2.2.frozen 0
      have e2 := hadd.2.2.lt
      refine hK _ _ ?_
      clear hK K
      refine wpAny_ready (rs := [5]) (by kernel_rfl) (by simp) ?_
      refine AllReady.cons rfl (fun K hK => ?_) AllReady.nil
      go_simp
      refine hK _ _ ?_
      clear hK K
      refine wpAny_done (by kernel_rfl) ?_ _
      go_wp2_with (fail)
      first | exact ⟨rfl, ⟨_, _, hadd.1⟩, hadd.2.1⟩ | exact ⟨rfl, _, _, hadd.1, hadd.2.1⟩ | (go_end0; first | exact ⟨rfl, ⟨_, _, hadd.1⟩, hadd.2.1⟩ | exact ⟨rfl, _, _, hadd.1, hadd.2.1⟩)
    · go_simp
      refine hK _ _ ?_
      clear hK K
      refine wpAny_ready (rs := [0]) (by kernel_rfl) (by simp) ?_
      refine AllReady.cons rfl (fun K hK => ?_) AllReady.nil
      go_simp
      refine hK _ _ ?_
      clear hK K
      refine wpAny_ready (rs := [4]) (by kernel_rfl) (by simp) ?_
      refine AllReady.cons rfl (fun K hK => ?_) AllReady.nil
      refine step_app1 Tryz.stElem _ (by rfl) (.tmp 3) (.tmp 6) (by rfl) base A c l (by rfl) (World.ownsRow.alloc (own_below HW.out.own hb3 (Nat.le_refl _)) _) (dcB x) w3.heap.size 1 (by rfl) ?hp (by unfold maxLen; omega) (by omega) (by have := hb3.size; rw [World.size_alloc]; omega) ?_
      case hp => rw [show stE (dcB x) = [.string sx] from by rw [← HSX.out]; rfl]; exact heap_alloc_new w3 _
      intro g cap w4 ha
      have hadd := HW.out.add (cur_step1 hb3 (cur_new w3 _)) ha
      have e0 : w4.cell? ⟨p, 0, none⟩ = some (.slice A l.length c) := hadd.2.2.cell 0
      have e1 := hadd.2.2.frozen 0
      have e2 := hadd.2.2.lt
      refine hK _ _ ?_
      clear hK K
      refine wpAny_ready (rs := [5]) (by kernel_rfl) (by simp) ?_
      refine AllReady.cons rfl (fun K hK => ?_) AllReady.nil
      go_simp
      refine hK _ _ ?_
      clear hK K
      refine wpAny_done (by kernel_rfl) ?_ _
      go_wp2_with (fail)
      first | exact ⟨rfl, ⟨_, _, hadd.1⟩, hadd.2.1⟩ | exact ⟨rfl, _, _, hadd.1, hadd.2.1⟩ | (go_end0; first | exact ⟨rfl, ⟨_, _, hadd.1⟩, hadd.2.1⟩ | exact ⟨rfl, _, _, hadd.1, hadd.2.1⟩)
end Go.Proofs.YtgkjcapoddjkhaaGreatDoor
