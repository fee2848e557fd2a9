/-
  Chapter 8: a field of a line is taken, by the program.
-/
import Derived.Test.YtgkjcapoddjkhaaGreatDoorEvT
import Derived.Test.YtgkjcapoddjkhaaGreatDoorNotPa
import Derived.Deep.MidRow
set_option linter.unusedSimpArgs false
set_option linter.unusedVariables false
namespace Go.Proofs.YtgkjcapoddjkhaaGreatDoor
open Go.RowKit
set_option maxRecDepth 100000
set_option maxHeartbeats 4000000
theorem kp_set {g : Nat} {w w2 : World} (hb : Below w.heap.size w w2) (j : Nat) (u : Value) : Kp g (.slice none 0 0) w (w2.setCell ⟨g, j, none⟩ u) := by
  have hst := below_set (Below.refl 0 w2) (Nat.zero_le g) j u
  exact ⟨hst.os.trans hb.os, hst.tape.trans hb.tape, hst.output.trans hb.output, Nat.le_trans hb.size hst.size, fun k hk hkg _ => by rw [heap_setCell_other w2 ⟨g, j, none⟩ k _ hkg, hb.block k hk]⟩
theorem Kp.set {g : Nat} {v : Value} {w w2 : World} (h : Kp g v w w2) (j : Nat) (u : Value) : Kp g v w (w2.setCell ⟨g, j, none⟩ u) := by
  have hst := below_set (Below.refl 0 w2) (Nat.zero_le g) j u
  exact ⟨hst.os.trans h.os, hst.tape.trans h.tape, hst.output.trans h.output, Nat.le_trans h.size hst.size, fun k hk hkg hv => by rw [heap_setCell_other w2 ⟨g, j, none⟩ k _ hkg, h.block k hk hkg hv]⟩
theorem Kp.of {g : Nat} {v : Value} {w w2 : World} (hb : Below w.heap.size w w2) : Kp g v w w2 := ⟨hb.os, hb.tape, hb.output, hb.size, fun k hk _ _ => hb.block k hk⟩
theorem ball_set {w : World} {g : Nat} {x : Ev} (hb : Blk w g 29 (evE x)) (d : Del) : Blk (w.setCells g 7 (delA d).toList) g 29 (evE { x with ball := d }) ∧ ∀ w0, Below w0.heap.size w0 w → Kp g (.slice none 0 0) w0 (w.setCells g 7 (delA d).toList) := by
  simp only [delA, World.setCells]
  exact ⟨(((((((((((hb.set 7 _).set 8 _).set 9 _).set 10 _).set 11 _).set 12 _).set 13 _).set 14 _).set 15 _).set 16 _).set 17 _).set 18 _, fun w0 h => (((((((((((kp_set h 7 _).set 8 _).set 9 _).set 10 _).set 11 _).set 12 _).set 13 _).set 14 _).set 15 _).set 16 _).set 17 _).set 18 _⟩
theorem del_info : (Tryz.prog.info? 27).map (·.size) = some 12 := by kernel_rfl
theorem delA_one (d : Del) : (delA d).all (·.oneCell') = true := by simp [delA, Value.oneCell']
theorem ball_there {w : World} {g : Nat} {x : Ev} (hb : Blk w g 29 (evE x)) (d : Del) : w.there g 7 (delA d).size := by
  intro j hj
  have hj : j < 12 := hj
  refine ⟨?_, hb.frozen _⟩
  rw [hb.cell]
  have : 7 + j < (evE x).length := by rw [evE_len]; omega
  rw [List.getElem?_eq_getElem this]
  rfl
theorem take8_p (n : Nat) (hn : n < 16) (x : Ev) (c : UInt8) (hc : c ∈ allC) (l : List UInt8) (hl : l.length ≤ 1000000) (g : Nat) (w : World) (hw : LibW w) (hb : Blk w g 29 (evE x)) :
    Calls Tryz.prog 44 #[.pointer (some ⟨g, 0, none⟩), .agg (fmE n).toArray, .int .u8 c.toNat, .string (sA l)] w fun e' w' => e' = .returned (.tuple #[]) ∧ Blk w' g 29 (evE (takeF ((n : Int) + 1) x c l)) ∧ Kp g (.slice none 0 0) w w' := by
  obtain ⟨sl, hsl⟩ : ∃ y, sA l = y := ⟨_, rfl⟩
  have hsz : sl.size ≤ 1000000 := by rw [← hsl, sA_sz]; exact hl
  rw [hsl]
  have HSL := Lib.hid hsl
  have HLL := Lib.hid hl
  have HL := Lib.hid hw
  obtain ⟨w1, hw1⟩ : ∃ y, w.alloc (.cells (fmE n).toArray 56) = y := ⟨_, rfl⟩
  have HB1 := Lib.hid (show Below w.heap.size w w1 by rw [← hw1]; exact cur_new _ _)
  have HF1 := Lib.hid (show Blk w1 w.heap.size 56 (fmE n) by rw [← hw1]; exact Blk.new w _ _)
  have HE1 := Lib.hid (show Blk w1 g 29 (evE x) from hb.to HB1.out)
  have HW1 := Lib.hid hw1
  clear hw1 hsl hl hw hb
  go_enter Tryz.func44, Tryz.ntmps44
  go_wp2_with (rw [HW1.out])
  have hcall := number_t sl (by omega) 0 1000000 (by decide) (by decide) w1 (HL.out.to HB1.out)
  rw [← HSL.out, sA_data, HSL.out] at hcall
  refine hcall.mono ?_
  clear hcall
  obtain ⟨v, hv⟩ : ∃ y, (numP l 0 1000000).1 = y := ⟨_, rfl⟩
  rw [hv]
  have HV := Lib.hid hv
  clear hv
  rintro e' w2 ⟨rfl, hb2⟩
  have HB2 := Lib.hid (cur_step1 HB1.out hb2)
  have HE2 := Lib.hid (HE1.out.to hb2)
  have HF2 := Lib.hid (HF1.out.to hb2)
  have hg := HE2.out.lt
  clear hb2
  simp only [allC, List.mem_cons, List.not_mem_nil, or_false] at hc
  rcases hc with hm | hm | hm | hm | hm | hm | hm
  · have HCE := Lib.hid hm
    have hcn : c.toNat = 115 := by rw [hm]; rfl
    clear hm
    have d1 : w2.cell? ⟨g, 1, none⟩ = some (.int .i64 x.side) := HE2.out.cell 1
    have z1 := HE2.out.frozen 1
    go_wp2_with (fail)
    have hfin : takeF ((n : Int) + 1) x c l = { x with side := v } := by rw [HCE.out, ← HV.out]; rfl
    go_end0
    rw [hfin]
    exact ⟨rfl, HE2.out.set 1 _, kp_set HB2.out 1 _⟩
  · have HCE := Lib.hid hm
    have hcn : c.toNat = 112 := by rw [hm]; rfl
    clear hm
    have d2 : w2.cell? ⟨g, 2, none⟩ = some (.int .i64 x.player) := HE2.out.cell 2
    have z2 := HE2.out.frozen 2
    go_wp2_with (fail)
    have hfin : takeF ((n : Int) + 1) x c l = { x with player := v } := by rw [HCE.out, ← HV.out]; rfl
    go_end0
    rw [hfin]
    exact ⟨rfl, HE2.out.set 2 _, kp_set HB2.out 2 _⟩
  · have HCE := Lib.hid hm
    have hcn : c.toNat = 111 := by rw [hm]; rfl
    clear hm
    have d3 : w2.cell? ⟨g, 3, none⟩ = some (.int .i64 x.other) := HE2.out.cell 3
    have z3 := HE2.out.frozen 3
    go_wp2_with (fail)
    have hfin : takeF ((n : Int) + 1) x c l = { x with other := v } := by rw [HCE.out, ← HV.out]; rfl
    go_end0
    rw [hfin]
    exact ⟨rfl, HE2.out.set 3 _, kp_set HB2.out 3 _⟩
  · have HCE := Lib.hid hm
    have hcn : c.toNat = 121 := by rw [hm]; rfl
    clear hm
    obtain ⟨s2, hs2⟩ : ∃ y, sA (yesT.getD n []) = y := ⟨_, rfl⟩
    have f2 : w2.cell? ⟨w.heap.size, 2, none⟩ = some (.string s2) := by rw [← hs2]; exact HF2.out.cell 2
    have d4 : w2.cell? ⟨g, 4, none⟩ = some (.bool x.yes) := HE2.out.cell 4
    have z4 := HE2.out.frozen 4
    have heq : (sl.toList == s2.toList) = decide (l = yesL ((n : Int) + 1)) := by
      rw [← HSL.out, ← hs2, sA_to, sA_to]
      unfold yesL
      rw [show ((n : Int) + 1 - 1).toNat = n by omega]
      rw [Bool.eq_iff_iff]
      simp
    obtain ⟨q, hq⟩ : ∃ y, decide (l = yesL ((n : Int) + 1)) = y := ⟨_, rfl⟩
    rw [hq] at heq
    have HQ := Lib.hid hq
    clear hq hs2
    go_wp2_with (fail)
    have hfin : takeF ((n : Int) + 1) x c l = { x with yes := q } := by rw [HCE.out, ← HQ.out]; rfl
    go_end0
    rw [hfin]
    exact ⟨rfl, HE2.out.set 4 _, kp_set HB2.out 4 _⟩
  · have HCE := Lib.hid hm
    have hcn : c.toNat = 114 := by rw [hm]; rfl
    clear hm
    have d5 : w2.cell? ⟨g, 5, none⟩ = some (.int .i64 x.runs) := HE2.out.cell 5
    have z5 := HE2.out.frozen 5
    go_wp2_with (fail)
    have hfin : takeF ((n : Int) + 1) x c l = { x with runs := v } := by rw [HCE.out, ← HV.out]; rfl
    go_end0
    rw [hfin]
    exact ⟨rfl, HE2.out.set 5 _, kp_set HB2.out 5 _⟩
  · have HCE := Lib.hid hm
    have hcn : c.toNat = 118 := by rw [hm]; rfl
    clear hm
    have d6 : w2.cell? ⟨g, 6, none⟩ = some (.int .i64 x.overs) := HE2.out.cell 6
    have z6 := HE2.out.frozen 6
    go_wp2_with (fail)
    have hfin : takeF ((n : Int) + 1) x c l = { x with overs := v } := by rw [HCE.out, ← HV.out]; rfl
    go_end0
    rw [hfin]
    exact ⟨rfl, HE2.out.set 6 _, kp_set HB2.out 6 _⟩
  · have HCE := Lib.hid hm
    have hcn : c.toNat = 98 := by rw [hm]; rfl
    clear hm
    have hcall := parse7_p l HLL.out w2 (HL.out.to HB2.out)
    rw [HSL.out] at hcall
    go_wp2_with (fail)
    refine hcall.mono ?_
    clear hcall
    obtain ⟨D, hD⟩ : ∃ D, (parD (guessP l) l).1 = D := ⟨_, rfl⟩
    rw [hD]
    have HD := Lib.hid hD
    clear hD
    rintro e' w3 ⟨rfl, hb3⟩
    have HB3 := Lib.hid (cur_step1 HB2.out hb3)
    have HE3 := Lib.hid (HE2.out.to hb3)
    clear hb3
    go_wp2_with (refine wpList_store_mid rfl 27 _ _ rfl g 7 (delA D) (by rfl) (by rfl) (ball_there HE3.out D) del_info (delA_one D) ?_)
    have hfin : takeF ((n : Int) + 1) x c l = { x with ball := D } := by rw [HCE.out, ← HD.out]; rfl
    go_end0
    rw [hfin]
    exact ⟨rfl, (ball_set HE3.out D).1, (ball_set HE3.out D).2 w HB3.out⟩
end Go.Proofs.YtgkjcapoddjkhaaGreatDoor
