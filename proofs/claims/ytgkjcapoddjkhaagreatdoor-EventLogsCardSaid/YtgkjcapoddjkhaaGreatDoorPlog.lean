/-
  Texts of one chapter, put together (a claim holds at most sixty files).
-/
import Derived.Test.YtgkjcapoddjkhaaGreatDoorEvT
import Derived.Test.YtgkjcapoddjkhaaGreatDoorNotPa
import Derived.Deep.MidRow
import Derived.Test.YtgkjcapoddjkhaaGreatDoorFldP
import Derived.Test.YtgkjcapoddjkhaaGreatDoorEvL
import Derived.StillTailTactics
import Derived.Test.YtgkjcapoddjkhaaGreatDoorJoinE
import Derived.Test.YtgkjcapoddjkhaaGreatDoorTxD
import Derived.Test.YtgkjcapoddjkhaaGreatDoorTxC
import Derived.Deep.DeepCutAuto
import Derived.Deep.RegionHeld3
set_option linter.unusedSimpArgs false
set_option linter.unusedVariables false
namespace Go.Proofs.YtgkjcapoddjkhaaGreatDoor
section
/-! Chapter 8: a field of a line is taken, by the program. -/
open Go.RowKit
set_option maxRecDepth 100000
set_option maxHeartbeats 4000000
theorem kp_set {g : Nat} {w w2 : World} (hb : Below w.heap.size w w2) (j : Nat) (u : Value) : Kp g (.slice none 0 0) w (w2.setCell ⟨g, j, none⟩ u) := by
  have hst := below_set (Below.refl 0 w2) (Nat.zero_le g) j u
  exact ⟨hst.os.trans hb.os, hst.tape.trans hb.tape, hst.output.trans hb.output, Nat.le_trans hb.size hst.size, fun k hk hkg _ => by rw [heap_setCell_other w2 ⟨g, j, none⟩ k _ hkg, hb.block k hk]⟩
theorem Kp.set {g : Nat} {v : Value} {w w2 : World} (h : Kp g v w w2) (j : Nat) (u : Value) : Kp g v w (w2.setCell ⟨g, j, none⟩ u) := by
  have hst := below_set (Below.refl 0 w2) (Nat.zero_le g) j u
  exact ⟨hst.os.trans h.os, hst.tape.trans h.tape, hst.output.trans h.output, Nat.le_trans h.size hst.size, fun k hk hkg hv => by rw [heap_setCell_other w2 ⟨g, j, none⟩ k _ hkg, h.block k hk hkg hv]⟩
theorem Kp.of {g : Nat} {v : Value} {w w2 : World} (hb : Below w.heap.size w w2) : Kp g v w w2 := ⟨hb.os, hb.tape, hb.output, hb.size, fun k hk _ _ => hb.block k hk⟩
theorem ball_set {w : World} {g : Nat} {x : Ev} (hb : Blk w g 29 (evE x)) (d : Del) : Blk (w.setCells g 7 (delA d).toList) g 29 (evE { x with ball := d }) ∧ ∀ w0, Below w0.heap.size w0 w → Kp g (.slice none 0 0) w0 (w.setCells g 7 (delA d).toList) := by
  simp only [delA, World.setCells]
  exact ⟨(((((((((((hb.set 7 _).set 8 _).set 9 _).set 10 _).set 11 _).set 12 _).set 13 _).set 14 _).set 15 _).set 16 _).set 17 _).set 18 _, fun w0 h => (((((((((((kp_set h 7 _).set 8 _).set 9 _).set 10 _).set 11 _).set 12 _).set 13 _).set 14 _).set 15 _).set 16 _).set 17 _).set 18 _⟩
theorem del_info : (Tryz.prog.info? 27).map (·.size) = some 12 := by kernel_rfl
theorem delA_one (d : Del) : (delA d).all (·.oneCell') = true := by simp [delA, Value.oneCell']
theorem ball_there {w : World} {g : Nat} {x : Ev} (hb : Blk w g 29 (evE x)) (d : Del) : w.there g 7 (delA d).size := by
  intro j hj
  have hj : j < 12 := hj
  refine ⟨?_, hb.frozen _⟩
  rw [hb.cell]
  have : 7 + j < (evE x).length := by rw [evE_len]; omega
  rw [List.getElem?_eq_getElem this]
  rfl
theorem take8_p (n : Nat) (hn : n < 16) (x : Ev) (c : UInt8) (hc : c ∈ allC) (l : List UInt8) (hl : l.length ≤ 1000000) (g : Nat) (w : World) (hw : LibW w) (hb : Blk w g 29 (evE x)) :
    Calls Tryz.prog 44 #[.pointer (some ⟨g, 0, none⟩), .agg (fmE n).toArray, .int .u8 c.toNat, .string (sA l)] w fun e' w' => e' = .returned (.tuple #[]) ∧ Blk w' g 29 (evE (takeF ((n : Int) + 1) x c l)) ∧ Kp g (.slice none 0 0) w w' := by
  obtain ⟨sl, hsl⟩ : ∃ y, sA l = y := ⟨_, rfl⟩
  have hsz : sl.size ≤ 1000000 := by rw [← hsl, sA_sz]; exact hl
  rw [hsl]
  have HSL := Lib.hid hsl
  have HLL := Lib.hid hl
  have HL := Lib.hid hw
  obtain ⟨w1, hw1⟩ : ∃ y, w.alloc (.cells (fmE n).toArray 56) = y := ⟨_, rfl⟩
  have HB1 := Lib.hid (show Below w.heap.size w w1 by rw [← hw1]; exact cur_new _ _)
  have HF1 := Lib.hid (show Blk w1 w.heap.size 56 (fmE n) by rw [← hw1]; exact Blk.new w _ _)
  have HE1 := Lib.hid (show Blk w1 g 29 (evE x) from hb.to HB1.out)
  have HW1 := Lib.hid hw1
  clear hw1 hsl hl hw hb
  go_enter Tryz.func44, Tryz.ntmps44
  go_wp2_with (rw [HW1.out])
  have hcall := number_t sl (by omega) 0 1000000 (by decide) (by decide) w1 (HL.out.to HB1.out)
  rw [← HSL.out, sA_data, HSL.out] at hcall
  refine hcall.mono ?_
  clear hcall
  obtain ⟨v, hv⟩ : ∃ y, (numP l 0 1000000).1 = y := ⟨_, rfl⟩
  rw [hv]
  have HV := Lib.hid hv
  clear hv
  rintro e' w2 ⟨rfl, hb2⟩
  have HB2 := Lib.hid (cur_step1 HB1.out hb2)
  have HE2 := Lib.hid (HE1.out.to hb2)
  have HF2 := Lib.hid (HF1.out.to hb2)
  have hg := HE2.out.lt
  clear hb2
  simp only [allC, List.mem_cons, List.not_mem_nil, or_false] at hc
  rcases hc with hm | hm | hm | hm | hm | hm | hm
  · have HCE := Lib.hid hm
    have hcn : c.toNat = 115 := by rw [hm]; rfl
    clear hm
    have d1 : w2.cell? ⟨g, 1, none⟩ = some (.int .i64 x.side) := HE2.out.cell 1
    have z1 := HE2.out.frozen 1
    go_wp2_with (fail)
    have hfin : takeF ((n : Int) + 1) x c l = { x with side := v } := by rw [HCE.out, ← HV.out]; rfl
    go_end0
    rw [hfin]
    exact ⟨rfl, HE2.out.set 1 _, kp_set HB2.out 1 _⟩
  · have HCE := Lib.hid hm
    have hcn : c.toNat = 112 := by rw [hm]; rfl
    clear hm
    have d2 : w2.cell? ⟨g, 2, none⟩ = some (.int .i64 x.player) := HE2.out.cell 2
    have z2 := HE2.out.frozen 2
    go_wp2_with (fail)
    have hfin : takeF ((n : Int) + 1) x c l = { x with player := v } := by rw [HCE.out, ← HV.out]; rfl
    go_end0
    rw [hfin]
    exact ⟨rfl, HE2.out.set 2 _, kp_set HB2.out 2 _⟩
  · have HCE := Lib.hid hm
    have hcn : c.toNat = 111 := by rw [hm]; rfl
    clear hm
    have d3 : w2.cell? ⟨g, 3, none⟩ = some (.int .i64 x.other) := HE2.out.cell 3
    have z3 := HE2.out.frozen 3
    go_wp2_with (fail)
    have hfin : takeF ((n : Int) + 1) x c l = { x with other := v } := by rw [HCE.out, ← HV.out]; rfl
    go_end0
    rw [hfin]
    exact ⟨rfl, HE2.out.set 3 _, kp_set HB2.out 3 _⟩
  · have HCE := Lib.hid hm
    have hcn : c.toNat = 121 := by rw [hm]; rfl
    clear hm
    obtain ⟨s2, hs2⟩ : ∃ y, sA (yesT.getD n []) = y := ⟨_, rfl⟩
    have f2 : w2.cell? ⟨w.heap.size, 2, none⟩ = some (.string s2) := by rw [← hs2]; exact HF2.out.cell 2
    have d4 : w2.cell? ⟨g, 4, none⟩ = some (.bool x.yes) := HE2.out.cell 4
    have z4 := HE2.out.frozen 4
    have heq : (sl.toList == s2.toList) = decide (l = yesL ((n : Int) + 1)) := by
      rw [← HSL.out, ← hs2, sA_to, sA_to]
      unfold yesL
      rw [show ((n : Int) + 1 - 1).toNat = n by omega]
      rw [Bool.eq_iff_iff]
      simp
    obtain ⟨q, hq⟩ : ∃ y, decide (l = yesL ((n : Int) + 1)) = y := ⟨_, rfl⟩
    rw [hq] at heq
    have HQ := Lib.hid hq
    clear hq hs2
    go_wp2_with (fail)
    have hfin : takeF ((n : Int) + 1) x c l = { x with yes := q } := by rw [HCE.out, ← HQ.out]; rfl
    go_end0
    rw [hfin]
    exact ⟨rfl, HE2.out.set 4 _, kp_set HB2.out 4 _⟩
  · have HCE := Lib.hid hm
    have hcn : c.toNat = 114 := by rw [hm]; rfl
    clear hm
    have d5 : w2.cell? ⟨g, 5, none⟩ = some (.int .i64 x.runs) := HE2.out.cell 5
    have z5 := HE2.out.frozen 5
    go_wp2_with (fail)
    have hfin : takeF ((n : Int) + 1) x c l = { x with runs := v } := by rw [HCE.out, ← HV.out]; rfl
    go_end0
    rw [hfin]
    exact ⟨rfl, HE2.out.set 5 _, kp_set HB2.out 5 _⟩
  · have HCE := Lib.hid hm
    have hcn : c.toNat = 118 := by rw [hm]; rfl
    clear hm
    have d6 : w2.cell? ⟨g, 6, none⟩ = some (.int .i64 x.overs) := HE2.out.cell 6
    have z6 := HE2.out.frozen 6
    go_wp2_with (fail)
    have hfin : takeF ((n : Int) + 1) x c l = { x with overs := v } := by rw [HCE.out, ← HV.out]; rfl
    go_end0
    rw [hfin]
    exact ⟨rfl, HE2.out.set 6 _, kp_set HB2.out 6 _⟩
  · have HCE := Lib.hid hm
    have hcn : c.toNat = 98 := by rw [hm]; rfl
    clear hm
    have hcall := parse7_p l HLL.out w2 (HL.out.to HB2.out)
    rw [HSL.out] at hcall
    go_wp2_with (fail)
    refine hcall.mono ?_
    clear hcall
    obtain ⟨D, hD⟩ : ∃ D, (parD (guessP l) l).1 = D := ⟨_, rfl⟩
    rw [hD]
    have HD := Lib.hid hD
    clear hD
    rintro e' w3 ⟨rfl, hb3⟩
    have HB3 := Lib.hid (cur_step1 HB2.out hb3)
    have HE3 := Lib.hid (HE2.out.to hb3)
    clear hb3
    go_wp2_with (refine wpList_store_mid rfl 27 _ _ rfl g 7 (delA D) (by rfl) (by rfl) (ball_there HE3.out D) del_info (delA_one D) ?_)
    have hfin : takeF ((n : Int) + 1) x c l = { x with ball := D } := by rw [HCE.out, ← HD.out]; rfl
    go_end0
    rw [hfin]
    exact ⟨rfl, (ball_set HE3.out D).1, (ball_set HE3.out D).2 w HB3.out⟩
end

section
/-! Chapter 8: the word of a line is looked up, by the program. -/
open Go.RowKit
set_option maxRecDepth 100000
set_option maxHeartbeats 4000000
attribute [-simp] Tryz.isAgg56 Tryz.sizeOf56
theorem sA_eqb (a b : List UInt8) : ((sA a).toList == (sA b).toList) = decide (a = b) := by
  rw [sA_to, sA_to, Bool.eq_iff_iff]
  simp
theorem parse1_p (n : Nat) (wl : List UInt8) (p : Nat) (w : World) (hp : w.cell? ⟨p, 0, none⟩ = some (.string (sA wl))) : Calls Tryz.prog 43 #[.agg (fmE n).toArray, .pointer (some ⟨p, 0, none⟩)] w fun e w' => e = .returned (.bool (decide (wordT.getD n [] = wl))) ∧ Below w.heap.size w w' := by
  obtain ⟨w1, hw1⟩ : ∃ y, w.alloc (.cells (fmE n).toArray 56) = y := ⟨_, rfl⟩
  have hb1 : Below w.heap.size w w1 := by rw [← hw1]; exact cur_new _ _
  have hF1 : Blk w1 w.heap.size 56 (fmE n) := by rw [← hw1]; exact Blk.new w _ _
  have hpl := Lib.lt_of_cell hp
  have d0 : w1.cell? ⟨w.heap.size, 0, none⟩ = some (.string (sA (wordT.getD n []))) := hF1.cell 0
  have d1 : w1.cell? ⟨p, 0, none⟩ = some (.string (sA wl)) := (hb1.cell (p := ⟨p, 0, none⟩) hpl).trans hp
  have he := sA_eqb (wordT.getD n []) wl
  obtain ⟨v, hv⟩ : ∃ y, decide (wordT.getD n [] = wl) = y := ⟨_, rfl⟩
  rw [hv] at he ⊢
  generalize sA (wordT.getD n []) = sa at *
  generalize sA wl = sb at *
  have HW1 := Lib.hid hw1
  have HB1 := Lib.hid hb1
  clear hw1 hb1 hF1 hv hp
  go_enter Tryz.func43, Tryz.ntmps43
  go_wp2_with (rw [HW1.out])
  go_ret
  exact ⟨rfl, HB1.out⟩
theorem idx_none {l : List (List UInt8)} {x : List UInt8} (h : ∀ (i : Nat) (y : List UInt8), l[i]? = some y → y ≠ x) : l.idxOf? x = none := by
  rw [List.idxOf?, List.findIdx?_eq_none_iff]
  intro y hy
  obtain ⟨i, hi⟩ := List.getElem?_of_mem hy
  simpa using h i y hi
theorem idx_some {l : List (List UInt8)} {x : List UInt8} {k : Nat} (h : ∀ (i : Nat) (y : List UInt8), i < k → l[i]? = some y → y ≠ x) (hk : l[k]? = some x) : l.idxOf? x = some k := by
  rw [List.idxOf?, List.findIdx?_eq_some_iff_getElem]
  obtain ⟨hlt, he⟩ := List.getElem?_eq_some_iff.1 hk
  refine ⟨hlt, by simp [he], fun j hj => ?_⟩
  have := h j l[j] hj (List.getElem?_eq_getElem _)
  simpa using this
theorem wordT_at {n : Nat} (hn : n < 16) : wordT[n]? = some (wordT.getD n []) := by
  have h : n < wordT.length := hn
  simp [List.getD, List.getElem?_eq_getElem h]
def idxV (wl : List UInt8) : Int := match kindW wl with
  | none => -1
  | some i => i
def IdR (wl : List UInt8) (w : World) (iv : Value) (wr : World) : Prop := ∃ k : Nat, k ≤ 16 ∧ iv = .int .i64 k ∧ (∀ i y, i < k → wordT[i]? = some y → y ≠ wl) ∧ Below w.heap.size w wr
theorem index_p (fb p : Nat) (wl : List UInt8) (CL : Value) (hCL : CL = .func (.func 43) #[] #[.pointer (some ⟨p, 0, none⟩)]) (w : World) (hb : Blk w fb 56 fmL) (hp : w.cell? ⟨p, 0, none⟩ = some (.string (sA wl))) :
    Calls Tryz.prog 42 #[.slice (some ⟨fb, 0, none⟩) 16 16, CL] w fun e w' => e = .returned (.int .i64 (idxV wl)) ∧ Below w.heap.size w w' := by
  subst hCL
  obtain ⟨R, hR⟩ : ∃ R, idxV wl = R := ⟨_, rfl⟩
  rw [hR]
  have HR := Lib.hid hR
  have HF := Lib.hid hb
  have HP := Lib.hid hp
  clear hR hb hp
  go_enter Tryz.func42, Tryz.ntmps42
  go_wp2_with (fail)
  go_loopw [8] (IdR wl w) (fun i _ => 16 - (intOf i).toNat)
  case atStart => exact ⟨0, by omega, rfl, fun i y h => by omega, Below.refl _ _⟩
  case round =>
    obtain ⟨k, hk, rfl, hno, hb⟩ := hrel
    have HNO := Lib.hid hno
    have HB := Lib.hid hb
    have hF := HF.out.to hb
    have hP := (hb.cell (p := ⟨p, 0, none⟩) (Lib.lt_of_cell HP.out)).trans HP.out
    have HF2 := Lib.hid hF
    have HP2 := Lib.hid hP
    clear hno hb hF hP
    by_cases hk16 : k < 16
    · obtain ⟨N, hN⟩ : ∃ N : Nat, N = 4 := ⟨_, rfl⟩
      have hA : ∀ w, Sem.run Tryz.prog (isAgg 56) w = .ok true w := fun w => Tryz.isAgg56 w
      have hZ : ∀ w, Sem.run Tryz.prog (sizeOf 56) w = .ok N w := fun w => by rw [hN]; exact Tryz.sizeOf56 w
      have hl1 := form_load HF2.out (fun (j : Nat) (v : Value) (hv : (fmE k)[j]? = some v) => (fm_at hk16 (by have := (List.getElem?_eq_some_iff.1 hv).1; exact this)).trans hv) rfl (show (fmE k).length = N by rw [hN]; rfl)
      clear hN
      go_wp2_with (fail)
      refine (parse1_p k wl p _ HP2.out).mono ?_
      rintro e' w2 ⟨rfl, hb2⟩
      have HB2 := Lib.hid (cur_step1 HB.out hb2)
      clear hb2
      by_cases he : wordT.getD k [] = wl
      · have hd : decide (wordT.getD k [] = wl) = true := by simpa using he
        rw [hd]
        have HRR := Lib.hid (show R = (k : Int) by rw [← HR.out]; unfold idxV kindW; rw [idx_some HNO.out (by rw [wordT_at hk16, he])])
        clear he hd
        go_wp2_with (fail)
        go_ret
        rw [HRR.out]
        exact ⟨rfl, HB2.out⟩
      · have hd : decide (wordT.getD k [] = wl) = false := by simpa using he
        rw [hd]
        have HN2 := Lib.hid (show ∀ i y, i < k + 1 → wordT[i]? = some y → y ≠ wl from fun i y hi hy => by
          rcases (by omega : i < k ∨ i = k) with h | rfl
          · exact HNO.out i y h hy
          · rw [wordT_at hk16] at hy; injection hy with hy; rw [← hy]; exact he)
        clear he hd
        go_wp2_with (fail)
        exact ⟨⟨k + 1, by omega, rfl, HN2.out, HB2.out⟩, by show 16 - (k + 1) < 16 - k; omega⟩
    · have hk17 : k = 16 := by omega
      subst hk17
      have HRR := Lib.hid (show R = -1 by rw [← HR.out]; unfold idxV kindW; rw [idx_none (fun i y h => HNO.out i y (by have := (List.getElem?_eq_some_iff.1 h).1; exact this) h)])
      go_wp2_with (fail)
      go_ret
      rw [HRR.out]
      exact ⟨rfl, HB.out⟩
end

section
/-! Chapter 8's log in plain Lean: read from the lines of a source. -/
open Go.RowKit
/-! Chapter 8's log. -/
def joinF (fs : List Fld) : List UInt8 × Bool := if fs.any (·.quoted) then ([], false) else (joinS (fs.map (·.text)), true)
def ParP (s : List UInt8) : Ev × Int := parE (guessE (splitC 32 s)) s
def colL (x : Lin) : Int := match x.fs with
  | [] => 0
  | f :: _ => f.col
def plStep (a : List Ev × List Dg) (x : Lin) : List Ev × List Dg :=
  if (joinF x.fs).2 = false ∨ (ParP (joinF x.fs).1).2 ≠ 0 then (if a.2.length < 50 then (a.1, a.2 ++ [⟨x.num, colL x, 4⟩]) else a)
  else (a.1 ++ [(ParP (joinF x.fs).1).1], a.2)
def ParLogP (src : List UInt8) : List Ev × List Dg :=
  if (splitP src).2 ≠ [] then ([], (splitP src).2)
  else if ((splitP src).1.foldl plStep ([], [])).2 ≠ [] then ([], ((splitP src).1.foldl plStep ([], [])).2)
  else if 4000 < ((splitP src).1.foldl plStep ([], [])).1.length then ([], [⟨1, 1, 9⟩])
  else (((splitP src).1.foldl plStep ([], [])).1, [])
/-- The chapter's example. -/
def exLog : List UInt8 := [84, 79, 83, 83, 32, 49, 32, 66, 65, 84, 10, 80, 76, 65, 89, 10]
theorem exLog_is : ParLogP exLog = ([], [⟨2, 1, 4⟩]) := by decide +kernel
end

section
/-! Chapter 8: Parse of the program. -/
open Go.RowKit
set_option maxRecDepth 100000
set_option maxHeartbeats 4000000
theorem takeAll_snoc (k : Int) : ∀ (cs : List UInt8) (ws : List (List UInt8)) (e : Ev) (c : UInt8) (w : List UInt8), cs.length = ws.length → takeAll k e (cs ++ [c]) (ws ++ [w]) = takeF k (takeAll k e cs ws) c w
  | [], [], e, c, w, _ => by simp [takeAll]
  | x :: cs, y :: ws, e, c, w, h => by
    have := takeAll_snoc k cs ws (takeF k e x y) c w (by simpa using h)
    simpa [takeAll] using this
  | [], _ :: _, _, _, _, h => by simp at h
  | _ :: _, [], _, _, _, h => by simp at h
theorem parD_ball (w : List UInt8) : 0 ≤ ((parD (guessP w) w).1).how ∧ 0 ≤ ((parD (guessP w) w).1).src := by
  unfold parD
  split
  · exact ⟨(guessP_how w).1, guessP_src w⟩
  · exact ⟨Int.le_refl 0, Int.le_refl 0⟩
theorem takeF_ball {k : Int} {e : Ev} {c : UInt8} {w : List UInt8} (h : 0 ≤ e.ball.how ∧ 0 ≤ e.ball.src) : 0 ≤ (takeF k e c w).ball.how ∧ 0 ≤ (takeF k e c w).ball.src := by
  unfold takeF
  split
  · exact h
  split
  · exact h
  split
  · exact h
  split
  · exact h
  split
  · exact h
  split
  · exact parD_ball w
  · exact h
theorem takeAll_ball (k : Int) : ∀ (cs : List UInt8) (ws : List (List UInt8)) (e : Ev), 0 ≤ e.ball.how ∧ 0 ≤ e.ball.src → 0 ≤ (takeAll k e cs ws).ball.how ∧ 0 ≤ (takeAll k e cs ws).ball.src
  | [], _, e, h => by simpa [takeAll] using h
  | _ :: _, [], e, h => by simpa [takeAll] using h
  | c :: cs, w :: ws, e, h => by
    have := takeAll_ball k cs ws (takeF k e c w) (takeF_ball h)
    simpa [takeAll] using this
theorem takeF_kind (k : Int) (e : Ev) (c : UInt8) (w : List UInt8) : (takeF k e c w).kind = e.kind := by
  unfold takeF
  repeat (first | rfl | split)
theorem evt_info : (Tryz.prog.info? 29).map (·.size) = some 19 := by kernel_rfl
theorem evt_one (e : Ev) : (evE e).toArray.all (·.oneCell') = true := by simp [evE, delE, Value.oneCell']
/-- What Parse's own blocks hold: the result, the words' row, the word's box, the event. -/
structure PaS (l : List UInt8) (r : Nat) (w wr : World) (wd : List UInt8) (x : Ev) : Prop where
  res : Blk wr r 29 (evE zeroE)
  row : Blk wr (r + 1) 9 ((splS 32 l).map Value.string)
  box : Blk wr (r + 2) 9 [.string (sA wd)]
  ev : Blk wr (r + 3) 29 (evE x)
  bl : Below w.heap.size w wr
theorem PaS.to {l : List UInt8} {r : Nat} {w wr w1 : World} {wd : List UInt8} {x : Ev} (h : PaS l r w wr wd x) (hb : Below wr.heap.size wr w1) : PaS l r w w1 wd x :=
  ⟨h.res.to hb, h.row.to hb, h.box.to hb, h.ev.to hb, cur_step1 h.bl hb⟩
theorem PaS.set {l : List UInt8} {r : Nat} {w wr : World} {wd : List UInt8} {x y : Ev} (h : PaS l r w wr wd x) (hr : w.heap.size ≤ r) (j : Nat) (u : Value) (hy : (evE x).set j u = evE y) : PaS l r w (wr.setCell ⟨r + 3, j, none⟩ u) wd y :=
  ⟨h.res.other (by omega) j u, h.row.other (by omega) j u, h.box.other (by omega) j u, by rw [← hy]; exact h.ev.set j u, below_set h.bl (by omega) j u⟩
theorem PaS.setW {l : List UInt8} {r : Nat} {w wr : World} {wd wd2 : List UInt8} {x : Ev} (h : PaS l r w wr wd x) (hr : w.heap.size ≤ r) : PaS l r w (wr.setCell ⟨r + 2, 0, none⟩ (.string (sA wd2))) wd2 x :=
  ⟨h.res.other (by omega) _ _, h.row.other (by omega) _ _, h.box.set 0 _, h.ev.other (by omega) _ _, below_set h.bl (by omega) _ _⟩
theorem PaS.kp {l : List UInt8} {r : Nat} {w wr w1 : World} {wd : List UInt8} {x y : Ev} (h : PaS l r w wr wd x) (hr : w.heap.size ≤ r) (hk : Kp (r + 3) (.slice none 0 0) wr w1) (hy : Blk w1 (r + 3) 29 (evE y)) : PaS l r w w1 wd y :=
  ⟨hk.blk h.res (by omega) (by simp [Value.ownBlock]), hk.blk h.row (by omega) (by simp [Value.ownBlock]), hk.blk h.box (by omega) (by simp [Value.ownBlock]), hy,
    h.bl.trans (hk.below (by have := h.bl.size; omega) (by omega) (fun k e => by simp [Value.ownBlock] at e))⟩
def parS (l : List UInt8) : Ev × Int := parE (guessE (splitC 32 l)) l
theorem pa_new (w : World) (l w0 : List UInt8) (r : Nat) (hr : w.heap.size = r) : PaS l r w ((((w.alloc (.cells (evE zeroE).toArray 29)).alloc (.cells ((splS 32 l).map Value.string).toArray 9)).alloc (.cells #[.string (sA w0)] 9)).alloc (.cells (evE zeroE).toArray 29)) w0 zeroE := by
  subst hr
  have b1 := Blk.new w 29 (evE zeroE)
  have b2 := Blk.new (w.alloc (.cells (evE zeroE).toArray 29)) 9 ((splS 32 l).map Value.string)
  have b3 := Blk.new ((w.alloc (.cells (evE zeroE).toArray 29)).alloc (.cells ((splS 32 l).map Value.string).toArray 9)) 9 [.string (sA w0)]
  have b4 := Blk.new (((w.alloc (.cells (evE zeroE).toArray 29)).alloc (.cells ((splS 32 l).map Value.string).toArray 9)).alloc (.cells #[.string (sA w0)] 9)) 29 (evE zeroE)
  simp only [World.size_alloc] at b2 b3 b4
  exact ⟨((b1.to (cur_new _ _)).to (cur_new _ _)).to (cur_new _ _), (b2.to (cur_new _ _)).to (cur_new _ _), b3.to (cur_new _ _), b4, cur_step1 (cur_step1 (cur_step1 (cur_new w _) (cur_new _ _)) (cur_new _ _)) (cur_new _ _)⟩
def idK : Option Nat → Int
  | none => -1
  | some i => i
theorem idxV_is (wl : List UInt8) : idxV wl = idK (kindW wl) := by unfold idxV idK; cases kindW wl <;> rfl
def gsK (K : Option Nat) (w0 : List UInt8) (ws : List (List UInt8)) : Option Ev := match K with
  | none => none
  | some i => if ws.length ≠ (fldsL ((i : Int) + 1)).length then none else some (takeAll ((i : Int) + 1) ⟨(i : Int) + 1, 0, 0, 0, decide (w0 = sTO), 0, 0, zeroD⟩ (fldsL ((i : Int) + 1)) ws)
theorem guess_is (w0 : List UInt8) (ws : List (List UInt8)) : guessE (w0 :: ws) = gsK (kindW (if w0 = sTO then sEN else w0)) w0 ws := by
  unfold guessE gsK
  dsimp only
  cases kindW (if w0 = sTO then sEN else w0) <;> rfl
def PlR (l : List UInt8) (r : Nat) (w : World) (wd : List UInt8) (tv : Bool) (i : Nat) (FL : List UInt8) (ws : List (List UInt8)) (fb : Nat) (iv : Value) (wr : World) : Prop := ∃ j : Nat, j ≤ FL.length ∧ iv = .int .i64 j ∧
  PaS l r w wr wd (takeAll ((i : Int) + 1) ⟨(i : Int) + 1, 0, 0, 0, tv, 0, 0, zeroD⟩ (FL.take j) (ws.take j)) ∧ Blk wr fb 56 fmL
theorem splitC_mlen (c : UInt8) : ∀ (l w : List UInt8), w ∈ splitC c l → w.length ≤ l.length
  | [], w, h => by simp [splitC] at h; subst h; simp
  | x :: l, w, h => by
    have ih := splitC_mlen c l
    unfold splitC at h
    split at h
    · rcases List.mem_cons.1 h with rfl | h
      · simp
      · have := ih w h; simp; omega
    · split at h
      · simp at h; subst h; simp
      · next q hq =>
        rcases List.mem_cons.1 h with rfl | h
        · have := ih _ (by rw [hq]; exact List.mem_cons_self)
          simp; omega
        · have := ih w (by rw [hq]; exact List.mem_cons_of_mem _ h)
          simp; omega
theorem parse8_p (l : List UInt8) (hl : l.length ≤ 1000000) (w : World) (hw : LibW w) : Calls Tryz.prog 14 #[.string (sA l)] w fun e' w' => e' = .returned (.tuple #[evV (parS l).1, .int .i64 (parS l).2]) ∧ Below w.heap.size w w' := by
  obtain ⟨m, hm⟩ := hw.maxlen
  obtain ⟨R, hR⟩ : ∃ R, parS l = R := ⟨_, rfl⟩
  rw [hR]
  have HR := Lib.hid hR
  have HL := Lib.hid hw
  obtain ⟨s, hs⟩ : ∃ s, sA l = s := ⟨_, rfl⟩
  have hsz : s.size ≤ 1000000 := by rw [← hs, sA_sz]; exact hl
  obtain ⟨L, hLe⟩ : ∃ L, splitC 32 l = L := ⟨_, rfl⟩
  have hN : Lib.countB s ⟨#[32]⟩ + 1 = L.length := by rw [← splS_len, ← hs, sA_list, ← hLe]; unfold splS; rw [List.length_map]
  have hL0 : L ≠ [] := by rw [← hLe]; exact splitC_ne 32 l
  obtain ⟨w0, ws, hL1⟩ : ∃ w0 ws, L = w0 :: ws := by cases L with | nil => exact absurd rfl hL0 | cons a b => exact ⟨a, b, rfl⟩
  have hlr : L.length ≤ 1000001 := by have := splitC_len 32 l; rw [hLe] at this; omega
  obtain ⟨r, hr⟩ : ∃ r, w.heap.size = r := ⟨_, rfl⟩
  obtain ⟨W0, hW0⟩ : ∃ y, w.alloc (.cells (evE zeroE).toArray 29) = y := ⟨_, rfl⟩
  have hm0 : W0.cell? ⟨0, 0, none⟩ = some (.int .i64 m) := by rw [← hW0]; exact ((cur_new w _).cell (Lib.lt_of_cell hm)).trans hm
  have SW0 := Lib.hid (show w.alloc (.cells #[.int .u8 0, .int .i64 0, .int .i64 0, .int .i64 0, .bool false, .int .i64 0, .int .i64 0, .int .u8 0, .int .u8 0, .int .i64 0, .int .i64 0, .int .i64 0, .bool false, .int .u8 0, .int .i64 0, .int .i64 0, .int .i64 0, .bool false, .int .i64 0] 29) = W0 from hW0)
  have HN := Lib.hid hN
  have HLe := Lib.hid hLe
  have HL1 := Lib.hid hL1
  have HS := Lib.hid hs
  have HRR := Lib.hid hr
  rw [hs]
  have hl1 : 1 ≤ L.length := by rw [hL1]; simp
  have HLP := Lib.hid (pa_new w l w0 r hr)
  rw [hW0] at HLP
  have h0 : W0.heap.size = r + 1 := by rw [← hW0, World.size_alloc, hr]
  have HH0 := Lib.hid h0
  clear hW0 hR hw hs hLe hN hL0 hL1 hm hr h0
  go_enter Tryz.func14, Tryz.ntmps14
  go_wp2_with (rw [SW0.out])
  refine (Tryz.split_p s ⟨#[32]⟩ m W0 (by omega) hm0 (by decide)).mono ?_
  rintro e' w2 ⟨rfl, hw2⟩
  rw [splS_map, ← HS.out, sA_list] at hw2
  rw [HN.out, HH0.out]
  have hbl2 : Blk w2 (r + 1) 9 ((splS 32 l).map Value.string) := by rw [hw2, ← HH0.out]; exact Blk.new W0 _ _
  have d0 : w2.cell? ⟨r + 1, 0, none⟩ = some (.string (sA w0)) := by rw [hbl2.cell]; unfold splS; rw [HLe.out, HL1.out]; rfl
  have h2s : w2.heap.size = r + 2 := by rw [hw2, World.size_alloc, HH0.out]
  have HW2 := Lib.hid hw2
  have H2S := Lib.hid h2s
  rw [← hw2] at HLP
  obtain ⟨z0, hz0⟩ : ∃ y, sA w0 = y := ⟨_, rfl⟩
  rw [hz0] at d0
  have HZ0 := Lib.hid hz0
  obtain ⟨W4, hW4⟩ : ∃ y, ((w2.alloc (.cells #[.string z0] 9)).alloc (.cells (evE zeroE).toArray 29)) = y := ⟨_, rfl⟩
  have HP4 := Lib.hid (show PaS l r w W4 w0 zeroE by rw [← hW4, ← HZ0.out]; exact HLP.out)
  have SW4 := Lib.hid (show (w2.alloc (.cells #[.string z0] 9)).alloc (.cells #[.int .u8 0, .int .i64 0, .int .i64 0, .int .i64 0, .bool false, .int .i64 0, .int .i64 0, .int .u8 0, .int .u8 0, .int .i64 0, .int .i64 0, .int .i64 0, .bool false, .int .u8 0, .int .i64 0, .int .i64 0, .int .i64 0, .bool false, .int .i64 0] 29) = W4 from hW4)
  have hrw : w.heap.size ≤ r := by have := HRR.out; omega
  have lr : r + 1 < w2.heap.size := by have := H2S.out; omega
  clear hw2 hbl2 h2s hz0 hW4 HLP SW0 hm0
  go_upto_region 4 with (fail)
  rw [SW4.out, H2S.out]
  rw [HRR.out, show r + 2 + 1 = r + 3 from rfl]
  obtain ⟨tv, htv⟩ : ∃ y, decide (w0 = sTO) = y := ⟨_, rfl⟩
  have gq : (z0.toList == [84, 73, 77, 69, 79, 85, 84]) = tv := by rw [← HZ0.out, ← htv, sA_to, Bool.eq_iff_iff]; simp [sTO]; exact ⟨fun h => decide_eq_true h, fun h => of_decide_eq_true h⟩
  have HTV := Lib.hid htv
  obtain ⟨wd, hwd⟩ : ∃ y, (if w0 = sTO then sEN else w0) = y := ⟨_, rfl⟩
  have HWD := Lib.hid hwd
  have p0 : W4.cell? ⟨r + 2, 0, none⟩ = some (.string z0) := by rw [← HZ0.out]; exact HP4.out.box.cell 0
  have p1 := HP4.out.box.frozen 0
  have p2 := HP4.out.box.lt
  clear htv hwd d0 lr
  go_upto_if 19 with (fail)
  go_cut [] (fun wx => PaS l r w wx wd ⟨0, 0, 0, 0, tv, 0, 0, zeroD⟩)
  case first =>
    cases tv
    · have hne : w0 ≠ sTO := by have := HTV.out; simpa using this
      have HE := Lib.hid (show wd = w0 by rw [← HWD.out, if_neg hne])
      clear hne
      go_wp2_with (fail)
      go_meet
      case rel => rw [HE.out]; exact HP4.out
    · have hne : w0 = sTO := by have := HTV.out; simpa using this
      have HE := Lib.hid (show wd = sEN by rw [← HWD.out, if_pos hne])
      clear hne
      obtain ⟨W5, hW5⟩ : ∃ y, W4.setCell ⟨r + 2, 0, none⟩ (.string ⟨#[69, 78, 84, 69, 82]⟩) = y := ⟨_, rfl⟩
      have HP5 := Lib.hid (show PaS l r w W5 sEN zeroE by rw [← hW5]; exact HP4.out.setW hrw)
      have S5 := Lib.hid hW5
      clear hW5
      have q0 : W5.cell? ⟨r + 3, 4, none⟩ = some (.bool false) := HP5.out.ev.cell 4
      have q1 := HP5.out.ev.frozen 4
      have q2 := HP5.out.ev.lt
      go_wp2_with (rw [S5.out])
      go_meet
      case rel => rw [HE.out]; exact HP5.out.set hrw 4 _ rfl
  case rest =>
  have HP6 := Lib.hid hcut
  clear hcut HP4 HW2 SW4 HH0 H2S HZ0 gq p0 p1 p2
  go_wp2_with (fail)
  refine (forms_q wc).mono ?_
  rintro e' w6 ⟨rfl, hf6, hb6⟩
  have HP7 := Lib.hid (HP6.out.to hb6)
  obtain ⟨fb, hfb⟩ : ∃ y, wc.heap.size = y := ⟨_, rfl⟩
  rw [hfb] at hf6 ⊢
  have HF7 := Lib.hid hf6
  have HFB := Lib.hid (show r + 3 < fb by have := HP6.out.ev.lt; omega)
  clear hf6 hb6 hfb HP6
  go_wp2_with (fail)
  refine (index_p fb (r + 2) wd _ rfl w6 HF7.out (HP7.out.box.cell 0)).mono ?_
  rintro e' w7 ⟨rfl, hb7⟩
  have HP8 := Lib.hid (HP7.out.to hb7)
  have HF8 := Lib.hid (HF7.out.to hb7)
  clear hb7 HP7 HF7
  obtain ⟨K, hK⟩ : ∃ K, kindW wd = K := ⟨_, rfl⟩
  rw [idxV_is, hK]
  have HG := Lib.hid (show guessE (w0 :: ws) = gsK K w0 ws by rw [guess_is, HWD.out, hK])
  have HRG := Lib.hid (show R = parE (guessE (w0 :: ws)) l by rw [← HR.out]; unfold parS; rw [HLe.out, HL1.out])
  have HKi := Lib.hid (show ∀ i, K = some i → i < 16 from fun i hi => by
    rw [hi] at hK
    have h := hK
    unfold kindW at h
    rw [List.idxOf?, List.findIdx?_eq_some_iff_getElem] at h
    exact h.1)
  have HLL := Lib.hid (show L.length = ws.length + 1 by rw [HL1.out]; rfl)
  clear hK
  cases K with
  | none =>
    unfold idK
    have HRE := Lib.hid (show R = (zeroE, 4) by rw [HRG.out, HG.out]; rfl)
    clear HG HRG
    go_wp2_with (first | (refine wpList_loadC rfl _ 29 rfl (r + 3) 29 (evE X) _ rfl (by rfl) (by rfl) (by rfl) HP8.out.ev ?_) | (refine wpList_storeC rfl _ _ 29 rfl r 29 (evE zeroE) (evE zeroE).toArray evt_info (by rfl) (by rfl) HP8.out.res rfl (evt_one _) ?_))
    refine ret_cell2 (g := r) (e := 29) (xs := (evE zeroE).toArray.toList) rfl (by rfl) (by rfl) (blk_row HP8.out.res _) rfl (by rfl) (by rfl) rfl ?_
    rw [HRE.out]
    exact ⟨rfl, row_below HP8.out.bl hrw _⟩
  | some i =>
    have hi := HKi.out i rfl
    obtain ⟨FL, hFL⟩ : ∃ y, fldsT.getD i [] = y := ⟨_, rfl⟩
    have hFl : fldsL ((i : Int) + 1) = FL := by unfold fldsL; rw [show ((i : Int) + 1 - 1).toNat = i by omega, hFL]
    have hfl2 : FL.length ≤ 2 := by rw [← hFL]; exact flds_len hi
    obtain ⟨sf, hsf⟩ : ∃ y, sA FL = y := ⟨_, rfl⟩
    have c1 : w7.cell? ⟨fb, i * 4 + 1, none⟩ = some (.string sf) := by rw [HF8.out.cell, fm_at hi (by decide), ← hsf, ← hFL]; rfl
    have hsfz : sf.size = FL.length := by rw [← hsf]; rfl
    unfold gsK at HG
    dsimp only at HG
    rw [hFl] at HG
    unfold idK
    have HFL := Lib.hid hFL
    have HSF := Lib.hid hsf
    have hi1 : (i : Int) < 16 := by omega
    have hi0 : (0 : Int) ≤ i := by omega
    clear hFL hFl hsf
    by_cases hlen : L.length = 1 + FL.length
    · have g1 : ((L.length : Int) != 1 + (FL.length : Int)) = false := by simp; omega
      have HLN := Lib.hid hlen
      have HRX := Lib.hid (show R = parE (some (takeAll ((i : Int) + 1) ⟨(i : Int) + 1, 0, 0, 0, tv, 0, 0, zeroD⟩ FL ws)) l by rw [HRG.out, HG.out, if_neg (by have := HLL.out; omega), HTV.out])
      have hwr : IntKind.u8.wrap ((i : Int) + 1) = (i : Int) + 1 := by show (((i : Int) + 1) % 256) = _; omega
      have k0 : w7.cell? ⟨r + 3, 0, none⟩ = some (.int .u8 0) := HP8.out.ev.cell 0
      have k1 := HP8.out.ev.frozen 0
      have k2 := HP8.out.ev.lt
      obtain ⟨w8, hw8⟩ : ∃ y, w7.setCell ⟨r + 3, 0, none⟩ (.int .u8 ((i : Int) + 1)) = y := ⟨_, rfl⟩
      have HP9 := Lib.hid (show PaS l r w w8 wd ⟨(i : Int) + 1, 0, 0, 0, tv, 0, 0, zeroD⟩ by rw [← hw8]; exact HP8.out.set hrw 0 _ rfl)
      have HF9 := Lib.hid (show Blk w8 fb 56 fmL by rw [← hw8]; exact HF8.out.other (by have := HFB.out; omega) _ _)
      have S8 := Lib.hid hw8
      clear hw8 HG HRG hlen
      have hl2 : (1 : Int) ≤ L.length := by omega
      by_cases hF : FL.length = 0
      · have hL1 : L.length = 1 := by have := HLN.out; omega
        have hF1 : FL = [] := List.eq_nil_of_length_eq_zero hF
        have hw1 : ws = [] := List.eq_nil_of_length_eq_zero (by have := HLL.out; omega)
        obtain ⟨X, hX⟩ : ∃ X, takeAll ((i : Int) + 1) ⟨(i : Int) + 1, 0, 0, 0, tv, 0, 0, zeroD⟩ FL ws = X := ⟨_, rfl⟩
        have HPY := Lib.hid (show PaS l r w w8 wd X by rw [← hX, hF1, hw1]; exact HP9.out)
        have HBL := Lib.hid (show 0 ≤ X.ball.how ∧ 0 ≤ X.ball.src by rw [← hX]; exact takeAll_ball _ _ _ _ ⟨Int.le_refl 0, Int.le_refl 0⟩)
        rw [hX] at HRX
        clear hX hF1 hw1
        go_wp2_with (rw [S8.out])
        go_loopw [47] (fun iv wr => iv = .int .i64 0 ∧ wr = w8) (fun _ _ => 0)
        case atStart => exact ⟨rfl, rfl⟩
        case round =>
          obtain ⟨rfl, rfl⟩ := hrel
          go_wp2_with (refine wpList_loadC rfl _ 29 rfl (r + 3) 29 (evE X) _ rfl (by rfl) (by rfl) (by rfl) HPY.out.ev ?_)
          refine (text_p X HBL.out.1 _ (HL.out.to HPY.out.bl)).mono ?_
          rintro e' w9 ⟨rfl, hb9⟩
          have HPZ := Lib.hid (HPY.out.to hb9)
          clear hb9
          by_cases hc : chkE X = 0
          · have HT := Lib.hid (show TxtE X = (txtE X, 0) by unfold TxtE; rw [if_neg (by simpa using hc)])
            rw [HT.out]
            obtain ⟨tS, htS⟩ : ∃ y, sA (txtE X) = y := ⟨_, rfl⟩
            have htq : (tS.toList == s.toList) = decide (txtE X = l) := by rw [← htS, ← HS.out]; exact sA_eqb _ _
            by_cases ht : txtE X = l
            · have htq2 : (tS.toList == s.toList) = true := by rw [htq]; simpa using ht
              have HRE := Lib.hid (show R = (X, 0) by rw [HRX.out]; unfold parE; dsimp only; rw [if_pos ⟨hc, ht⟩])
              dsimp only
              rw [htS]
              clear htq ht hc htS HRX
              go_wp2_with (first | (refine wpList_loadC rfl _ 29 rfl (r + 3) 29 (evE X) _ rfl (by rfl) (by rfl) (by rfl) HPZ.out.ev ?_) | (refine wpList_storeC rfl _ _ 29 rfl r 29 (evE zeroE) (evE X).toArray evt_info (by rfl) (by rfl) HPZ.out.res rfl (evt_one _) ?_))
              refine ret_cell2 (g := r) (e := 29) (xs := (evE X).toArray.toList) rfl (by rfl) (by rfl) (blk_row HPZ.out.res _) rfl (by rfl) (by rfl) rfl ?_
              rw [HRE.out]
              exact ⟨rfl, row_below HPZ.out.bl hrw _⟩
            · have htq2 : (tS.toList == s.toList) = false := by rw [htq]; simpa using ht
              have HRE := Lib.hid (show R = (zeroE, 4) by rw [HRX.out]; unfold parE; dsimp only; rw [if_neg (fun q => ht q.2)])
              dsimp only
              rw [htS]
              clear htq ht hc htS HRX
              go_wp2_with (first | (refine wpList_loadC rfl _ 29 rfl (r + 3) 29 (evE X) _ rfl (by rfl) (by rfl) (by rfl) HPZ.out.ev ?_) | (refine wpList_storeC rfl _ _ 29 rfl r 29 (evE zeroE) (evE zeroE).toArray evt_info (by rfl) (by rfl) HPZ.out.res rfl (evt_one _) ?_))
              refine ret_cell2 (g := r) (e := 29) (xs := (evE zeroE).toArray.toList) rfl (by rfl) (by rfl) (blk_row HPZ.out.res _) rfl (by rfl) (by rfl) rfl ?_
              rw [HRE.out]
              exact ⟨rfl, row_below HPZ.out.bl hrw _⟩
          · obtain ⟨v, hv⟩ : ∃ v, chkE X = v := ⟨_, rfl⟩
            have HT := Lib.hid (show TxtE X = ([], v) by unfold TxtE; rw [if_pos hc, hv])
            have g1v : (v != 0) = true := by rw [← hv]; simpa using hc
            have HRE := Lib.hid (show R = (zeroE, 4) by rw [HRX.out]; unfold parE; dsimp only; rw [if_neg (fun q => hc q.1)])
            rw [HT.out]
            clear hc hv HRX
            go_wp2_with (first | (refine wpList_loadC rfl _ 29 rfl (r + 3) 29 (evE X) _ rfl (by rfl) (by rfl) (by rfl) HPZ.out.ev ?_) | (refine wpList_storeC rfl _ _ 29 rfl r 29 (evE zeroE) (evE zeroE).toArray evt_info (by rfl) (by rfl) HPZ.out.res rfl (evt_one _) ?_))
            refine ret_cell2 (g := r) (e := 29) (xs := (evE zeroE).toArray.toList) rfl (by rfl) (by rfl) (blk_row HPZ.out.res _) rfl (by rfl) (by rfl) rfl ?_
            rw [HRE.out]
            exact ⟨rfl, row_below HPZ.out.bl hrw _⟩
      · have hL1 : ¬ L.length = 1 := by have := HLN.out; omega
        have hLs : L.length - 1 = FL.length := by have := HLN.out; omega
        obtain ⟨z0, hz0⟩ : ∃ y, sA (wordT.getD i []) = y := ⟨_, rfl⟩
        obtain ⟨z2, hz2⟩ : ∃ y, sA (yesT.getD i []) = y := ⟨_, rfl⟩
        obtain ⟨z3, hz3⟩ : ∃ y, sA (noT.getD i []) = y := ⟨_, rfl⟩
        have HFM := Lib.hid (show fmE i = [.string z0, .string sf, .string z2, .string z3] by unfold fmE; rw [hz0, hz2, hz3, HFL.out, HSF.out])
        clear hz0 hz2 hz3
        go_wp2_with (rw [S8.out])
        clear c1 k0 k1 k2
        go_loopw [47] (PlR l r w wd tv i FL ws fb) (fun iv _ => FL.length - (intOf iv).toNat)
        case atStart => exact ⟨0, by omega, rfl, HP9.out, HF9.out⟩
        case round =>
          obtain ⟨j, hj, rfl, hpa, hfb2⟩ := hrel
          have HPA := Lib.hid hpa
          have HFA := Lib.hid hfb2
          clear hpa hfb2
          by_cases hjF : j < FL.length
          · obtain ⟨c, hcj⟩ : ∃ c, FL[j]? = some c := ⟨_, List.getElem?_eq_getElem hjF⟩
            obtain ⟨wj, hwj⟩ : ∃ x, ws[j]? = some x := ⟨_, List.getElem?_eq_getElem (by have := HLL.out; have := HLN.out; omega)⟩
            obtain ⟨hz, hsj⟩ := sA_at HSF.out hcj
            have h256 : c.toNat < 256 := c.toNat_lt
            obtain ⟨zj, hzj⟩ : ∃ y, sA wj = y := ⟨_, rfl⟩
            have r1 : wr.cell? ⟨r + 1, 1 + j, none⟩ = some (.string zj) := by
              rw [HPA.out.row.cell]
              unfold splS
              rw [HLe.out, HL1.out, Nat.add_comm 1 j]
              simp [hwj, ← hzj, sA]
            have HZJ := Lib.hid hzj
            have c0 : wr.cell? ⟨fb, i * 4, none⟩ = some (.string z0) := by rw [HFA.out.cell]; exact (fm_at (j := 0) hi (by decide)).trans (by rw [HFM.out]; rfl)
            have c1 : wr.cell? ⟨fb, i * 4 + 1, none⟩ = some (.string sf) := by rw [HFA.out.cell]; exact (fm_at (j := 1) hi (by decide)).trans (by rw [HFM.out]; rfl)
            have c2 : wr.cell? ⟨fb, i * 4 + 2, none⟩ = some (.string z2) := by rw [HFA.out.cell]; exact (fm_at (j := 2) hi (by decide)).trans (by rw [HFM.out]; rfl)
            have c3 : wr.cell? ⟨fb, i * 4 + 3, none⟩ = some (.string z3) := by rw [HFA.out.cell]; exact (fm_at (j := 3) hi (by decide)).trans (by rw [HFM.out]; rfl)
            have lfb := HFA.out.lt
            have lrb := HPA.out.row.lt
            have HNXT := Lib.hid (show takeF ((i : Int) + 1) (takeAll ((i : Int) + 1) ⟨(i : Int) + 1, 0, 0, 0, tv, 0, 0, zeroD⟩ (FL.take j) (ws.take j)) c wj = takeAll ((i : Int) + 1) ⟨(i : Int) + 1, 0, 0, 0, tv, 0, 0, zeroD⟩ (FL.take (j + 1)) (ws.take (j + 1)) by
              rw [List.take_add_one, List.take_add_one, hcj, hwj]
              refine (takeAll_snoc _ _ _ _ _ _ ?_).symm
              rw [List.length_take, List.length_take]
              have := HLL.out; have := HLN.out; omega)
            have hcall := take8_p i hi (takeAll ((i : Int) + 1) ⟨(i : Int) + 1, 0, 0, 0, tv, 0, 0, zeroD⟩ (FL.take j) (ws.take j)) c (flds_mem hi c (by rw [HFL.out]; exact List.mem_of_getElem? hcj)) wj (by have := splitC_mlen 32 l wj (by rw [HLe.out, HL1.out]; exact List.mem_cons_of_mem _ (List.mem_of_getElem? hwj)); omega) (r + 3) wr.drew (HL.out.to (HPA.out.bl.drew)) HPA.out.ev
            rw [HFM.out, hzj, HNXT.out] at hcall
            have HC := Lib.hid hcall
            clear hcall hcj hwj hzj
            go_wp2_with (fail)
            refine wp_region_still_tail 12 (by kernel_rfl) (by kernel_rfl) ?_
            simp only [List.take_succ_cons, List.take_zero, List.drop_succ_cons, List.drop_zero]
            repeat still_step
            refine wpStill_nil ?_
            go_wp2_with (fail)
            refine HC.out.mono ?_
            rintro e' w9 ⟨rfl, hbk, hkp⟩
            have hkp2 : Kp (r + 3) (.slice none 0 0) wr w9 := ⟨hkp.os, hkp.tape, hkp.output, hkp.size, hkp.block⟩
            have HN9 := Lib.hid (HPA.out.kp hrw hkp2 hbk)
            have HF9 := Lib.hid (hkp2.blk HFA.out (by have := HFB.out; omega) (by simp [Value.ownBlock]))
            clear hbk hkp hkp2
            go_wp2_with (fail)
            exact ⟨⟨j + 1, hjF, rfl, HN9.out, HF9.out⟩, by show FL.length - (j + 1) < FL.length - j; omega⟩
          · have hjn : j = FL.length := by omega
            obtain ⟨X, hX⟩ : ∃ X, takeAll ((i : Int) + 1) ⟨(i : Int) + 1, 0, 0, 0, tv, 0, 0, zeroD⟩ FL ws = X := ⟨_, rfl⟩
            have HPY := Lib.hid (show PaS l r w wr wd X by have := HPA.out; rw [hjn, List.take_length, List.take_of_length_le (by have := HLL.out; have := HLN.out; omega), hX] at this; exact this)
            have HBL := Lib.hid (show 0 ≤ X.ball.how ∧ 0 ≤ X.ball.src by rw [← hX]; exact takeAll_ball _ _ _ _ ⟨Int.le_refl 0, Int.le_refl 0⟩)
            rw [hX] at HRX
            clear hX hjn HPA
            go_wp2_with (refine wpList_loadC rfl _ 29 rfl (r + 3) 29 (evE X) _ rfl (by rfl) (by rfl) (by rfl) HPY.out.ev ?_)
            refine (text_p X HBL.out.1 _ (HL.out.to HPY.out.bl)).mono ?_
            rintro e' w9 ⟨rfl, hb9⟩
            have HPZ := Lib.hid (HPY.out.to hb9)
            clear hb9
            by_cases hc : chkE X = 0
            · have HT := Lib.hid (show TxtE X = (txtE X, 0) by unfold TxtE; rw [if_neg (by simpa using hc)])
              rw [HT.out]
              obtain ⟨tS, htS⟩ : ∃ y, sA (txtE X) = y := ⟨_, rfl⟩
              have htq : (tS.toList == s.toList) = decide (txtE X = l) := by rw [← htS, ← HS.out]; exact sA_eqb _ _
              by_cases ht : txtE X = l
              · have htq2 : (tS.toList == s.toList) = true := by rw [htq]; simpa using ht
                have HRE := Lib.hid (show R = (X, 0) by rw [HRX.out]; unfold parE; dsimp only; rw [if_pos ⟨hc, ht⟩])
                dsimp only
                rw [htS]
                clear htq ht hc htS HRX
                go_wp2_with (first | (refine wpList_loadC rfl _ 29 rfl (r + 3) 29 (evE X) _ rfl (by rfl) (by rfl) (by rfl) HPZ.out.ev ?_) | (refine wpList_storeC rfl _ _ 29 rfl r 29 (evE zeroE) (evE X).toArray evt_info (by rfl) (by rfl) HPZ.out.res rfl (evt_one _) ?_))
                refine ret_cell2 (g := r) (e := 29) (xs := (evE X).toArray.toList) rfl (by rfl) (by rfl) (blk_row HPZ.out.res _) rfl (by rfl) (by rfl) rfl ?_
                rw [HRE.out]
                exact ⟨rfl, row_below HPZ.out.bl hrw _⟩
              · have htq2 : (tS.toList == s.toList) = false := by rw [htq]; simpa using ht
                have HRE := Lib.hid (show R = (zeroE, 4) by rw [HRX.out]; unfold parE; dsimp only; rw [if_neg (fun q => ht q.2)])
                dsimp only
                rw [htS]
                clear htq ht hc htS HRX
                go_wp2_with (first | (refine wpList_loadC rfl _ 29 rfl (r + 3) 29 (evE X) _ rfl (by rfl) (by rfl) (by rfl) HPZ.out.ev ?_) | (refine wpList_storeC rfl _ _ 29 rfl r 29 (evE zeroE) (evE zeroE).toArray evt_info (by rfl) (by rfl) HPZ.out.res rfl (evt_one _) ?_))
                refine ret_cell2 (g := r) (e := 29) (xs := (evE zeroE).toArray.toList) rfl (by rfl) (by rfl) (blk_row HPZ.out.res _) rfl (by rfl) (by rfl) rfl ?_
                rw [HRE.out]
                exact ⟨rfl, row_below HPZ.out.bl hrw _⟩
            · obtain ⟨v, hv⟩ : ∃ v, chkE X = v := ⟨_, rfl⟩
              have HT := Lib.hid (show TxtE X = ([], v) by unfold TxtE; rw [if_pos hc, hv])
              have g1v : (v != 0) = true := by rw [← hv]; simpa using hc
              have HRE := Lib.hid (show R = (zeroE, 4) by rw [HRX.out]; unfold parE; dsimp only; rw [if_neg (fun q => hc q.1)])
              rw [HT.out]
              clear hc hv HRX
              go_wp2_with (first | (refine wpList_loadC rfl _ 29 rfl (r + 3) 29 (evE X) _ rfl (by rfl) (by rfl) (by rfl) HPZ.out.ev ?_) | (refine wpList_storeC rfl _ _ 29 rfl r 29 (evE zeroE) (evE zeroE).toArray evt_info (by rfl) (by rfl) HPZ.out.res rfl (evt_one _) ?_))
              refine ret_cell2 (g := r) (e := 29) (xs := (evE zeroE).toArray.toList) rfl (by rfl) (by rfl) (blk_row HPZ.out.res _) rfl (by rfl) (by rfl) rfl ?_
              rw [HRE.out]
              exact ⟨rfl, row_below HPZ.out.bl hrw _⟩
    · have g1 : ((L.length : Int) != 1 + (FL.length : Int)) = true := by simp; omega
      have HRE := Lib.hid (show R = (zeroE, 4) by rw [HRG.out, HG.out, if_pos (by have := HLL.out; omega)]; rfl)
      clear HG HRG hlen
      go_wp2_with (first | (refine wpList_loadC rfl _ 29 rfl (r + 3) 29 (evE X) _ rfl (by rfl) (by rfl) (by rfl) HP8.out.ev ?_) | (refine wpList_storeC rfl _ _ 29 rfl r 29 (evE zeroE) (evE zeroE).toArray evt_info (by rfl) (by rfl) HP8.out.res rfl (evt_one _) ?_))
      refine ret_cell2 (g := r) (e := 29) (xs := (evE zeroE).toArray.toList) rfl (by rfl) (by rfl) (blk_row HP8.out.res _) rfl (by rfl) (by rfl) rfl ?_
      rw [HRE.out]
      exact ⟨rfl, row_below HP8.out.bl hrw _⟩
end

section
/-! Chapter 8: the fields of a line joined, by the program. -/
open Go.RowKit
set_option maxRecDepth 100000
set_option maxHeartbeats 4000000
def JoR (fs : List Fld) (w : World) (v iv : Value) (wr : World) : Prop := ∃ (k : Nat) (A : Option Addr) (c : Nat), k ≤ fs.length ∧ iv = .int .i64 k ∧ v = .slice A ((fs.take k).map (·.text)).length c ∧ OwnL stE 1 9 w.heap.size wr (.slice A ((fs.take k).map (·.text)).length c) ((fs.take k).map (·.text)) ∧ (fs.take k).any (·.quoted) = false ∧ Below w.heap.size w wr
theorem joined_p (num : Int) (g c0 : Nat) (fs : List Fld) (hf0 : fs ≠ []) (hfl : fs.length ≤ 2000) (hjl : (joinF fs).1.length ≤ 100000) (w : World) (hrd : Rd flE 3 w w.heap.size (some ⟨g, 0, none⟩) fs) :
    Calls Tryz.prog 50 #[.agg #[.int .i64 num, .slice (some ⟨g, 0, none⟩) fs.length c0]] w fun e w' => e = .returned (.tuple #[.string (sA (joinF fs).1), .bool (joinF fs).2]) ∧ Below w.heap.size w w' := by
  obtain ⟨R, hR⟩ : ∃ R, joinF fs = R := ⟨_, rfl⟩
  rw [hR] at hjl ⊢
  have HR := Lib.hid hR
  have HRD := Lib.hid hrd
  have hf1 : 0 < fs.length := List.length_pos_iff.2 hf0
  have HF0 := Lib.hid hf0
  have HJL := Lib.hid hjl
  clear hR hrd hf0 hjl
  go_enter Tryz.func50, Tryz.ntmps50
  go_wp2_with (fail)
  go_loopw [4, 10] (JoR fs w) (fun _ i _ => fs.length - (intOf i).toNat)
  case atStart => exact ⟨0, none, 0, by omega, rfl, rfl, World.ownsRow_nil _ _ _ _, rfl, cur_new _ _⟩
  case round =>
    obtain ⟨k, A, c, hk, rfl, rfl, hown, hq, hb⟩ := hrel
    have HO := Lib.hid hown
    have HQ := Lib.hid hq
    have HB := Lib.hid hb
    obtain ⟨TL, hTL⟩ : ∃ y, (fs.take k).map (·.text) = y := ⟨_, rfl⟩
    rw [hTL] at HO ⊢
    have htl : TL.length ≤ 2000 := by rw [← hTL]; simp; omega
    have HTL := Lib.hid hTL
    clear hown hq hb hTL
    by_cases hkl : k < fs.length
    · obtain ⟨f, hfk⟩ : ∃ f, fs[k]? = some f := ⟨_, List.getElem?_eq_getElem hkl⟩
      obtain ⟨b2, off2, e2, hb2, hc2⟩ := (HRD.out.to HB.out) k f hfk
      injection e2 with e2
      injection e2 with e21 e22 _
      subst e21 e22
      obtain ⟨ft, fc, fq⟩ := f
      obtain ⟨st, hst⟩ : ∃ y, sA ft = y := ⟨_, rfl⟩
      have d0 := hc2 0 _ rfl
      have d1 := hc2 1 _ rfl
      have d2 := hc2 2 _ rfl
      dsimp only at d0 d1 d2
      rw [hst] at d0
      simp only [Nat.zero_add, Nat.add_zero] at d0 d1 d2
      have HST := Lib.hid (show stE ft = [.string st] by unfold stE; rw [hst])
      have HFK := Lib.hid hfk
      have HTK := Lib.hid (show TL ++ [ft] = (fs.take (k + 1)).map (·.text) by rw [List.take_add_one, hfk, ← HTL.out]; simp)
      have hnew := cur_new wr (.cells #[.string st, .int .i64 fc, .bool fq] 101)
      have HNW := Lib.hid hnew
      clear hst hfk hc2 hnew
      cases fq
      · have HQ2 := Lib.hid (show (fs.take (k + 1)).any (·.quoted) = false by rw [List.take_add_one, HFK.out, List.any_append, HQ.out]; rfl)
        go_wp2_with (at_builtin; refine wpList_app1 Tryz.stElem _ rfl (.tmp 16) (.tmp 19) rfl w.heap.size A c TL rfl ?o1 ft (wr.heap.size + 1) 1 rfl ?o2 ?o3 ?o4 ?o5 ?_)
        case o1 => exact World.ownsRow.alloc (World.ownsRow.alloc HO.out _) _
        case o2 => rw [HST.out]; first | exact two_new _ _ _ | exact (Array.getElem?_eq_some_iff.1 (two_new _ _ _)).2
        case o3 => unfold maxLen; omega
        case o4 => omega
        case o5 => have := HB.out.size; simp; omega
        intro g2 cap w6 ha
        obtain ⟨hb6, ho6⟩ := app1_end HB.out (own_base HO.out) (cur_two wr _ _) ha
        rw [HTK.out] at ho6
        have HB6 := Lib.hid hb6
        have HO6 := Lib.hid ho6
        have HLN := Lib.hid (show TL.length + 1 = ((fs.take (k + 1)).map (·.text)).length by rw [← HTK.out, List.length_append]; rfl)
        clear ha hb6 ho6
        go_wp2_with (fail)
        exact ⟨⟨k + 1, some ⟨g2, 0, none⟩, cap, by omega, rfl, by rw [← HLN.out], HO6.out, HQ2.out, HB6.out⟩, by show fs.length - (k + 1) < fs.length - k; omega⟩
      · have HRR := Lib.hid (show R = ([], false) by rw [← HR.out]; unfold joinF; rw [if_pos (List.any_eq_true.2 ⟨_, List.mem_of_getElem? HFK.out, rfl⟩)])
        go_wp2_with (fail)
        go_ret2
        rw [HRR.out]
        exact ⟨rfl, cur_step1 HB.out HNW.out⟩
    · have hkn : k = fs.length := by omega
      have g9 : ¬ k < fs.length := hkl
      have HTT := Lib.hid (show TL = fs.map (·.text) by rw [← HTL.out, hkn, List.take_length])
      have HRR := Lib.hid (show R = (joinS (fs.map (·.text)), true) by rw [← HR.out]; unfold joinF; rw [if_neg (by have := HQ.out; rw [hkn, List.take_length] at this; rw [this]; decide)])
      clear hkn
      go_wp2_with (fail)
      have ho := HO.out
      have hjl := HJL.out
      rw [HRR.out] at hjl
      rw [HTT.out] at ho ⊢
      dsimp only at hjl
      refine (join_own (by simpa using HF0.out) (by rw [← HTT.out]; omega) (by omega) _ ho).mono ?_
      rintro e' w6 ⟨rfl, hb6⟩
      go_wp2_with (fail)
      go_ret2
      rw [HRR.out]
      exact ⟨rfl, cur_step1 HB.out hb6⟩
end

section
/-! Chapter 3's lines: how long the fields of a line are. Plain. -/
open Go.RowKit
def totF (fs : List Fld) : Nat := (fs.map (fun f => f.text.length + 1)).sum
theorem totF_app (a : List Fld) (f : Fld) : totF (a ++ [f]) = totF a + (f.text.length + 1) := by unfold totF; simp
theorem quoL_rel : ∀ (j : Nat) (acc r : List UInt8), (quoL j acc r).1.length + j ≤ (quoL j acc r).2.1 + acc.length
  | j, _, [] => by simp [quoL]
  | j, acc, [c] => by
    unfold quoL
    split
    · show acc.length + j ≤ j + 1 + acc.length; omega
    · split <;> (simp; try omega)
  | j, acc, c :: d :: r => by
    unfold quoL
    split
    · split
      · have := quoL_rel (j + 2) (acc ++ [34]) r
        simp at this ⊢; omega
      · show acc.length + j ≤ j + 1 + acc.length; omega
    · split
      · have := quoL_rel (j + 1) (acc ++ [c]) (d :: r)
        simp at this ⊢; omega
      · simp
theorem fldF_tot : ∀ (n i : Nat) (aft : Bool) (acc : List Fld) (rest : List UInt8), totF (fldF n i aft acc rest).1 ≤ totF acc + 2 * rest.length
  | 0, _, _, acc, _ => by simp [fldF]
  | n + 1, _, _, acc, [] => by simp [fldF]
  | n + 1, i, aft, acc, c :: r => by
    unfold fldF
    split
    · have := fldF_tot n (i + 1) false acc r
      simp only [List.length_cons]; omega
    split
    · show totF acc ≤ _; omega
    split
    · show totF [] ≤ _; simp [totF]
    split
    · dsimp only
      split
      · next hq =>
        have h1 := quoL_rel (i + 1) [] r
        have h2 := quoL_le (i + 1) [] r
        have h3 := quoL_gt hq
        have := fldF_tot n (quoL (i + 1) [] r).2.1 true (acc ++ [⟨(quoL (i + 1) [] r).1, (i : Int) + 1, true⟩]) ((c :: r).drop ((quoL (i + 1) [] r).2.1 - i))
        rw [totF_app, List.length_drop, List.length_cons] at this
        dsimp only at this
        simp only [List.length_nil, Nat.add_zero] at h1
        simp only [List.length_cons]
        omega
      · show totF [] ≤ _; simp [totF]
    · dsimp only
      split
      · show totF [] ≤ _; simp [totF]
      · next hk =>
        have := fldF_tot n (i + ((c :: r).takeWhile wordC).length) false (acc ++ [⟨(c :: r).take ((c :: r).takeWhile wordC).length, (i : Int) + 1, false⟩]) ((c :: r).drop ((c :: r).takeWhile wordC).length)
        rw [totF_app, List.length_drop] at this
        dsimp only at this
        rw [List.length_take] at this
        have hk1 : ((c :: r).takeWhile wordC).length ≠ 0 := fun h => hk (.inl h)
        have hk2 : ((c :: r).takeWhile wordC).length ≤ (c :: r).length := (List.takeWhile_sublist wordC).length_le
        omega
theorem fieldsP_tot (s : List UInt8) : totF (fieldsP s).1 ≤ 2 * s.length := by
  have := fldF_tot (s.length + 1) 0 false [] s
  have h : totF [] = 0 := rfl
  unfold fieldsP
  omega
theorem joinS_tot : ∀ (fs : List Fld), (joinS (fs.map (·.text))).length ≤ totF fs ∧ fs.length ≤ totF fs
  | [] => by simp [joinS, totF]
  | f :: r => by
    have ih := joinS_tot r
    have h : totF (f :: r) = f.text.length + 1 + totF r := by unfold totF; simp
    refine ⟨?_, by rw [h, List.length_cons]; omega⟩
    rw [List.map_cons, joinS, h]
    split
    · omega
    · rw [List.length_append, List.length_cons]; omega
/-- What ParseLog wants of a line. -/
def LinOk (x : Lin) : Prop := x.fs ≠ [] ∧ x.fs.length ≤ 1000 * 2 ∧ (joinF x.fs).1.length ≤ 2000
theorem linP_ok {s : List UInt8} (h : 0 < (linP s).1.length) (n : Int) : LinOk ⟨n, (linP s).1⟩ := by
  have hs : s.length ≤ 1000 := by
    rcases Nat.lt_or_ge 1000 s.length with h1 | h1
    · unfold linP at h; rw [if_neg (by omega)] at h; simp at h
    · exact h1
  have he : (linP s).1 = (fieldsP s).1 := by unfold linP; rw [if_pos hs]
  have ht := fieldsP_tot s
  have hj := joinS_tot (fieldsP s).1
  refine ⟨List.length_pos_iff.1 h, ?_, ?_⟩
  · show (linP s).1.length ≤ _
    rw [he]; omega
  · show (joinF (linP s).1).1.length ≤ _
    rw [he]
    unfold joinF
    split
    · simp
    · show (joinS _).length ≤ _; omega
theorem splF_ok : ∀ (l : List (List UInt8)) (i : Nat) (a : List Lin × List Dg), (∀ x ∈ a.1, LinOk x) → ∀ x ∈ (splF i a l).1, LinOk x
  | [], i, a, h => h
  | s :: l, i, a, h => by
    refine splF_ok l (i + 1) (splStep a i s) ?_
    unfold splStep
    split
    · exact h
    split
    · next hc =>
      intro x hx
      rcases List.mem_append.1 hx with hx | hx
      · exact h x hx
      · simp at hx; subst hx; exact linP_ok hc.2 _
    · exact h
theorem splitP_ok (src : List UInt8) : ∀ x ∈ (splitP src).1, LinOk x := by
  unfold splitP
  split
  · simp
  · exact splF_ok _ 0 _ (by simp)
theorem splF_len : ∀ (l : List (List UInt8)) (i : Nat) (a : List Lin × List Dg), (splF i a l).1.length ≤ a.1.length + l.length
  | [], i, a => by simp [splF]
  | s :: l, i, a => by
    have ih := splF_len l (i + 1) (splStep a i s)
    have h1 : (splStep a i s).1.length ≤ a.1.length + 1 := by unfold splStep; split <;> (try split) <;> simp
    show (splF (i + 1) (splStep a i s) l).1.length ≤ _
    rw [List.length_cons]; omega
end

section
/-! Chapter 8: ParseLog of the program. -/
open Go.RowKit
set_option maxRecDepth 100000
set_option maxHeartbeats 4000000
theorem Tryz.infoEv : (Tryz.prog.info? 29).map (fun i => (i.zero, i.size, i.bytes)) = some (some (.agg (evE zeroE).toArray), 19, 136) := by kernel_rfl
theorem Tryz.evElem : ElemOf Tryz.prog evE 19 136 40 29 := .mk' Tryz.infoEv rfl Tryz.underlying40 (by decide) evE_len (fun x u hu => by simp [evE, delE] at hu; rcases hu with rfl | rfl | rfl | rfl | rfl | rfl | rfl | rfl | rfl | rfl | rfl | rfl | rfl | rfl | rfl | rfl | rfl | rfl | rfl <;> rfl)
/-- Two rows of the call's own beside one another: events and diagnostics. -/
structure EgS (b1 : Nat) (wr : World) (A : Option Addr) (c : Nat) (es : List Ev) (B : Option Addr) (cb : Nat) (dl : List Dg) : Prop where
  ev : OwnL evE 19 29 b1 wr (.slice A es.length c) es
  dg : OwnL dgE 3 50 b1 wr (.slice B dl.length cb) dl
  f1 : ∀ k, (Value.slice B dl.length cb).ownBlock = some k → (Value.slice A es.length c).ownBlock ≠ some k
theorem EgS.to {b1 : Nat} {wr w1 : World} {A : Option Addr} {c : Nat} {es : List Ev} {B : Option Addr} {cb : Nat} {dl : List Dg} (h : EgS b1 wr A c es B cb dl) (hb : Below wr.heap.size wr w1) : EgS b1 w1 A c es B cb dl :=
  ⟨own_below h.ev hb (Nat.le_refl _), own_below h.dg hb (Nat.le_refl _), h.f1⟩
theorem EgS.start (b1 : Nat) (w : World) : EgS b1 w none 0 [] none 0 [] := ⟨World.ownsRow_nil _ _ _ _, World.ownsRow_nil _ _ _ _, (fun k h => by cases h)⟩
theorem EgS.evt {b1 : Nat} {wr w0 w1 : World} {A : Option Addr} {c : Nat} {es : List Ev} {B : Option Addr} {cb : Nat} {dl : List Dg} {x : Ev} {g cap : Nat} (h : EgS b1 wr A c es B cb dl) (hb : Below wr.heap.size wr w0)
    (ha : App w0 w1 b1 29 19 (.slice A es.length c) g cap es.length 1 (es.flatMap evE) (evE x)) : EgS b1 w1 (some ⟨g, 0, none⟩) cap (es ++ [x]) B cb dl := by
  have h0 := h.to hb
  have hbs := hb.size
  have hd : ∀ k, (Value.slice B dl.length cb).ownBlock = some k → k < wr.heap.size := fun k hk => (own_block_lt h.dg hk).2
  refine ⟨by rw [List.length_append]; exact ha.one rfl, own_keep h0.dg (fun k hk => ha.grown.block k (by have := hd k hk; omega) (fun e => h.f1 k hk e.symm)), fun k hk e => ?_⟩
  have e : g = k := by injection e
  rcases ha.at_ with h1 | h1
  · exact h.f1 k hk (by rw [h1, e])
  · have := hd k hk; omega
theorem EgS.diag {b1 : Nat} {wr w0 w1 : World} {A : Option Addr} {c : Nat} {es : List Ev} {B : Option Addr} {cb : Nat} {dl : List Dg} {d : Dg} {g cap : Nat} (h : EgS b1 wr A c es B cb dl) (hb : Below wr.heap.size wr w0)
    (ha : App w0 w1 b1 50 3 (.slice B dl.length cb) g cap dl.length 1 (dl.flatMap dgE) (dgE d)) : EgS b1 w1 A c es (some ⟨g, 0, none⟩) cap (dl ++ [d]) := by
  have h0 := h.to hb
  have hbs := hb.size
  have hA : ∀ k, (Value.slice A es.length c).ownBlock = some k → k < wr.heap.size := fun k hk => (own_block_lt h.ev hk).2
  refine ⟨own_keep h0.ev (fun k hk => ha.grown.block k (by have := hA k hk; omega) (fun e => h.f1 k e.symm hk)), by rw [List.length_append]; exact ha.one rfl, fun k hk e => ?_⟩
  have hk : g = k := by injection hk
  rcases ha.at_ with h1 | h1
  · exact h.f1 k (by rw [h1, hk]) e
  · have := hA k e; omega
theorem foldl_take {α β : Type} (f : α → β → α) (a : α) (l : List β) (k : Nat) (x : β) (h : l[k]? = some x) : (l.take (k + 1)).foldl f a = f ((l.take k).foldl f a) x := by
  rw [List.take_add_one, h, List.foldl_append]
  rfl
def LgR (rs : List Lr) (w2 : World) (dv lv iv : Value) (wr : World) : Prop := ∃ (k : Nat) (es : List Ev) (A : Option Addr) (c : Nat) (dl : List Dg) (B : Option Addr) (cb : Nat), k ≤ rs.length ∧ iv = .int .i64 k ∧ lv = .slice A es.length c ∧ dv = .slice B dl.length cb ∧ es.length ≤ k ∧ dl.length ≤ k ∧
  EgS w2.heap.size wr A c es B cb dl ∧ ((rs.map Lr.lin).take k).foldl plStep ([], []) = (es, dl) ∧ Below w2.heap.size w2 wr
theorem parlog_p (l : List UInt8) (hl : l.length ≤ 1000000) (w : World) (hw : LibW w) : Calls Tryz.prog 19 #[.string (sA l)] w fun e w' => ∃ A c B cb, e = .returned (.tuple #[.slice A (ParLogP l).1.length c, .slice B (ParLogP l).2.length cb]) ∧ OwnL evE 19 29 w.heap.size w' (.slice A (ParLogP l).1.length c) (ParLogP l).1 ∧ OwnL dgE 3 50 w.heap.size w' (.slice B (ParLogP l).2.length cb) (ParLogP l).2 ∧ Below w.heap.size w w' := by
  obtain ⟨R, hR⟩ : ∃ R, ParLogP l = R := ⟨_, rfl⟩
  rw [hR]
  obtain ⟨S, hS⟩ : ∃ S, splitP l = S := ⟨_, rfl⟩
  have hok : ∀ x ∈ S.1, LinOk x := by rw [← hS]; exact splitP_ok l
  have hlen : S.1.length ≤ 262145 := by
    rw [← hS]
    unfold splitP
    split
    · simp
    · have h1 := splF_len (splitC 10 l) 0 ([], [])
      have h2 := splitC_len 10 l
      simp only [List.length_nil] at h1
      omega
  have HR := Lib.hid (show R = if S.2 ≠ [] then ([], S.2) else if (S.1.foldl plStep ([], [])).2 ≠ [] then ([], (S.1.foldl plStep ([], [])).2) else if 4000 < (S.1.foldl plStep ([], [])).1.length then ([], [⟨1, 1, 9⟩]) else ((S.1.foldl plStep ([], [])).1, []) by rw [← hR, ← hS]; rfl)
  have hsp := split3_p l hl w hw
  rw [hS] at hsp
  have HSP := Lib.hid hsp
  have HL := Lib.hid hw
  have HOK := Lib.hid hok
  obtain ⟨s, hs⟩ : ∃ s, sA l = s := ⟨_, rfl⟩
  rw [hs] at HSP ⊢
  clear hR hS hok hsp hw hs
  obtain ⟨S1, S2⟩ := S
  dsimp only at HR HSP hlen HOK
  go_enter Tryz.func19, Tryz.ntmps19
  go_wp2_with (fail)
  refine HSP.out.mono ?_
  rintro e w2 ⟨A0, c0, rs, B0, cb0, rfl, hsps, rfl, hb2⟩
  have HS2 := Lib.hid hsps
  have HB2 := Lib.hid hb2
  clear hsps hb2
  by_cases hd0 : S2 = []
  case neg =>
    have hdl : 0 < S2.length := List.length_pos_iff.2 hd0
    have HRR := Lib.hid (show R = ([], S2) by rw [HR.out, if_pos hd0])
    clear hd0
    go_wp2_with (fail)
    go_ret2
    rw [HRR.out]
    exact ⟨none, 0, B0, cb0, rfl, World.ownsRow_nil _ _ _ _, HS2.out.dg, HB2.out⟩
  subst hd0
  obtain ⟨hB0, hcb0⟩ := HS2.out.nil rfl
  subst hB0 hcb0
  have HRR := Lib.hid (show R = if ((rs.map Lr.lin).foldl plStep ([], [])).2 ≠ [] then ([], ((rs.map Lr.lin).foldl plStep ([], [])).2) else if 4000 < ((rs.map Lr.lin).foldl plStep ([], [])).1.length then ([], [⟨1, 1, 9⟩]) else (((rs.map Lr.lin).foldl plStep ([], [])).1, []) by rw [HR.out, if_neg (by simp)])
  have hrl : rs.length ≤ 262145 := by simpa using hlen
  have HRO := Lib.hid (OwnL.rd lrE_len HS2.out.tab.own)
  clear HR hlen HSP
  go_wp2_with (fail)
  go_loopw [5, 6, 24] (LgR rs w2) (fun _ _ i _ => rs.length - (intOf i).toNat)
  case atStart => exact ⟨0, [], none, 0, [], none, 0, by omega, rfl, rfl, rfl, by simp, by simp, EgS.start _ _, rfl, Below.refl _ _⟩
  case round =>
    obtain ⟨k, es, A, c, dl, B, cb, hk, rfl, rfl, rfl, hel, hdl, hS, hsp, hb⟩ := hrel
    have HS := Lib.hid hS
    have HSPK := Lib.hid hsp
    have HB := Lib.hid hb
    clear hS hsp hb
    by_cases hkl : k < rs.length
    · obtain ⟨x, hx⟩ : ∃ x, rs[k]? = some x := ⟨_, List.getElem?_eq_getElem hkl⟩
      obtain ⟨A9, c9, e9, hrd, hz9⟩ := HRO.out
      injection e9 with e91 _ e93
      subst e91 e93
      obtain ⟨b2, off2, rfl, hb2l, hc2⟩ := hrd k x hx
      obtain rfl : off2 = 0 := (hz9 b2 off2 rfl).2
      have hxm := List.mem_of_getElem? hx
      have hrow := HS2.out.tab.rows x hxm
      obtain ⟨A8, c8, e8, hrd8, _⟩ := OwnL.rd flE_len hrow
      injection e8 with e81 _ e83
      subst e81 e83
      obtain ⟨num, g, gc, fs⟩ := x
      dsimp only at hrd8 hrow
      have hlo : LinOk ⟨num, fs⟩ := HOK.out _ (List.mem_map.2 ⟨_, hxm, rfl⟩)
      have HLO := Lib.hid hlo
      have d0 : wr.cell? ⟨b2, k * 2, none⟩ = some (.int .i64 num) := (HB.out.cell (p := ⟨b2, k * 2, none⟩) hb2l).trans (by simpa using hc2 0 _ rfl)
      have d1 : wr.cell? ⟨b2, k * 2 + 1, none⟩ = some (.slice (some ⟨g, 0, none⟩) fs.length gc) := (HB.out.cell (p := ⟨b2, k * 2 + 1, none⟩) hb2l).trans (by simpa using hc2 1 _ rfl)
      have HRD := Lib.hid (show Rd flE 3 wr wr.heap.size (some ⟨g, 0, none⟩) fs from hrd8.to HB.out)
      have HNX := Lib.hid (show ((rs.map Lr.lin).take (k + 1)).foldl plStep ([], []) = plStep (es, dl) ⟨num, fs⟩ by rw [foldl_take plStep ([], []) (rs.map Lr.lin) k ⟨num, fs⟩ (by rw [List.getElem?_map, hx]; rfl), HSPK.out])
      have HGL := Lib.hid (own_blk hrow).2
      clear hz9 hc2 hrd hrd8 hrow hlo hx hxm
      obtain ⟨W3, hW3⟩ : ∃ y, wr.alloc (.cells #[.int .i64 num, .slice (some ⟨g, 0, none⟩) fs.length gc] 97) = y := ⟨_, rfl⟩
      have HB3 := Lib.hid (show Below wr.heap.size wr W3 by rw [← hW3]; exact cur_new _ _)
      have HX3 := Lib.hid (show Blk W3 wr.heap.size 97 [.int .i64 num, .slice (some ⟨g, 0, none⟩) fs.length gc] by rw [← hW3]; exact Blk.new wr _ _)
      have q0 : W3.cell? ⟨wr.heap.size, 0, none⟩ = some (.int .i64 num) := HX3.out.cell 0
      have q1 : W3.cell? ⟨wr.heap.size, 1, none⟩ = some (.slice (some ⟨g, 0, none⟩) fs.length gc) := HX3.out.cell 1
      have S3 := Lib.hid hW3
      clear hW3
      go_wp2_with (rw [S3.out])
      refine (joined_p num g gc fs HLO.out.1 (by have := HLO.out.2.1; omega) (by have := HLO.out.2.2; show (joinF fs).1.length ≤ _; exact Nat.le_trans this (by omega)) W3 (HRD.out.to HB3.out)).mono ?_
      rintro e w4 ⟨rfl, hb4⟩
      obtain ⟨J, hJ⟩ : ∃ J, joinF fs = J := ⟨_, rfl⟩
      have hjl : J.1.length ≤ 2000 := by rw [← hJ]; exact HLO.out.2.2
      rw [hJ]
      obtain ⟨jl, pl⟩ := J
      dsimp only at hjl ⊢
      have HJ := Lib.hid hJ
      have HB4 := Lib.hid (cur_step1 HB3.out hb4)
      have HX4 := Lib.hid (HX3.out.to hb4)
      clear hb4 hJ d0 d1 q0 q1
      go_wp2_with (fail)
      refine (parse8_p jl (by omega) w4 (HL.out.to (cur_step1 HB2.out (cur_step1 HB.out HB4.out)))).mono ?_
      rintro e w5 ⟨rfl, hb5⟩
      obtain ⟨P, hP⟩ : ∃ P, parS jl = P := ⟨_, rfl⟩
      rw [hP]
      obtain ⟨X, er⟩ := P
      dsimp only
      have HP := Lib.hid hP
      have HB5 := Lib.hid (cur_step1 HB4.out hb5)
      have HX5 := Lib.hid (HX4.out.to hb5)
      clear hb5 hP
      obtain ⟨W6, hW6⟩ : ∃ y, w5.alloc (.cells (evE X).toArray 29) = y := ⟨_, rfl⟩
      have S6 := Lib.hid hW6
      have HB6 := Lib.hid (show Below wr.heap.size wr W6 by rw [← hW6]; exact cur_step1 HB5.out (cur_new w5 _))
      have HX6 := Lib.hid (show Blk W6 wr.heap.size 97 [.int .i64 num, .slice (some ⟨g, 0, none⟩) fs.length gc] by rw [← hW6]; exact HX5.out.to (cur_new w5 _))
      have HE6 := Lib.hid (show Blk W6 w5.heap.size 29 (evE X) by rw [← hW6]; exact Blk.new w5 _ _)
      have HRD6 := Lib.hid (show Rd flE 3 W6 W6.heap.size (some ⟨g, 0, none⟩) fs from HRD.out.to HB6.out)
      clear hW6
      go_upto_region 10 with (refine wpList_storeNew rfl _ _ 29 rfl _ (evE X).toArray evt_info (by rfl) (by rfl) rfl (evt_one _) ?_; rw [S6.out])
      obtain ⟨f9, fr9, hfs⟩ : ∃ f9 fr9, fs = f9 :: fr9 := by cases fs with | nil => exact absurd rfl HLO.out.1 | cons a b => exact ⟨a, b, rfl⟩
      obtain ⟨ft, fcol, fqq⟩ := f9
      have HCOL := Lib.hid (show colL ⟨num, fs⟩ = fcol by rw [hfs]; rfl)
      have hfl0 : (0 : Int) < fs.length := by have := congrArg List.length hfs; simp at this; omega
      have hfl1 : 0 < fs.length := by omega
      have q0 : W6.cell? ⟨wr.heap.size, 0, none⟩ = some (.int .i64 num) := HX6.out.cell 0
      have q1 : W6.cell? ⟨wr.heap.size, 1, none⟩ = some (.slice (some ⟨g, 0, none⟩) fs.length gc) := HX6.out.cell 1
      have q2 : W6.cell? ⟨g, 1, none⟩ = some (.int .i64 fcol) := by
        obtain ⟨b3, off3, e3, _, hc3⟩ := HRD6.out 0 _ (by rw [hfs]; rfl)
        injection e3 with e3
        injection e3 with e31 e32 _
        subst e31 e32
        simpa using hc3 1 _ rfl
      obtain ⟨W7, hW7⟩ : ∃ y, W6.drew = y := ⟨_, rfl⟩
      have HB7 := Lib.hid (show Below wr.heap.size wr W7 by rw [← hW7]; exact HB6.out.drew)
      have SW7 := Lib.hid hW7
      clear hfs hW7
      cases pl
      · have HCD := Lib.hid (show ((false : Bool) = false ∨ er ≠ 0) from .inl rfl)
        have HN2 := Lib.hid (show ((rs.map Lr.lin).take (k + 1)).foldl plStep ([], []) = if dl.length < 50 then (es, dl ++ [⟨num, fcol, 4⟩]) else (es, dl) by
          rw [HNX.out]
          unfold plStep
          rw [if_pos (by show (joinF fs).2 = false ∨ (parS (joinF fs).1).2 ≠ 0; rw [HJ.out]; dsimp only; rw [HP.out]; exact HCD.out), HCOL.out])
        by_cases hd50 : dl.length < 50
        · have g5 : decide ((dl.length : Int) < 50) = true := by simp; omega
          have HN3 := Lib.hid (show ((rs.map Lr.lin).take (k + 1)).foldl plStep ([], []) = (es, dl ++ [⟨num, fcol, 4⟩]) by rw [HN2.out, if_pos hd50])
          go_wp2_with (fail)
          have ol := World.ownsRow.lt HS.out.dg
          have n1 : (Value.slice B dl.length cb).ownBlock ≠ some wr.heap.size := fun e => by have := ol _ e; omega
          have n2 : (Value.slice B dl.length cb).ownBlock ≠ some g := fun e => by have := ol _ e; have := HGL.out; omega
          have hw26 : w2.heap.size ≤ W6.heap.size := Nat.le_trans HB.out.size HB6.out.size
          have hx6 := HX6.out.lt
          have hg6 : g < W6.heap.size := Nat.lt_of_lt_of_le HGL.out hw26
          clear ol
          go_region_held3 (fun w' => w'.cell? ⟨wr.heap.size, 0, none⟩ = some (.int .i64 num) ∧ w'.cell? ⟨wr.heap.size, 1, none⟩ = some (.slice (some ⟨g, 0, none⟩) fs.length gc) ∧ w'.cell? ⟨g, 1, none⟩ = some (.int .i64 fcol))
            (first
              | go_keep
              | (go_split_ands
                 refine ⟨?_, ?_, ?_⟩
                 · (rw [ha.far (by simp; omega) n1]; assumption)
                 · (rw [ha.far (by simp; omega) n1]; assumption)
                 · (rw [ha.far (by simp; omega) n2]; assumption)))
            ((refine step_app1 Tryz.dgElem _ (by rfl) _ _ (by rfl) w2.heap.size B cb dl (by rfl) ((World.ownsRow.alloc (HS.out.to HB6.out).dg _).drew) (⟨num, fcol, 4⟩ : Dg) W6.heap.size 1 (by rfl) (heap_alloc_new W6 _) (by unfold maxLen; omega) (by omega) (by simp; omega) ?_; intro g2 cap w8 ha))
          have hb8 := (app1_end (cur_step1 HB.out HB6.out) (own_base HS.out.dg) ((cur_new W6 _).drew) ha).1
          have hs8 := HS.out.diag (cur_step1 HB6.out (cur_new W6 _).drew) ha
          have HB8 := Lib.hid hb8
          have HS8 := Lib.hid hs8
          clear ha hb8 hs8
          go_wp2_with (fail)
          exact ⟨⟨k + 1, es, A, c, dl ++ [⟨num, fcol, 4⟩], some ⟨g2, 0, none⟩, cap, by omega, rfl, rfl, by simp, by omega, by simp; omega, HS8.out, HN3.out, HB8.out⟩, by show rs.length - (k + 1) < rs.length - k; omega⟩
        · have g5 : decide ((dl.length : Int) < 50) = false := by simp; omega
          have HN3 := Lib.hid (show ((rs.map Lr.lin).take (k + 1)).foldl plStep ([], []) = (es, dl) by rw [HN2.out, if_neg hd50])
          go_wp2_with (fail)
          exact ⟨⟨k + 1, es, A, c, dl, B, cb, by omega, rfl, rfl, rfl, by omega, by omega, HS.out.to HB6.out, HN3.out, cur_step1 HB.out HB6.out⟩, by show rs.length - (k + 1) < rs.length - k; omega⟩
      · by_cases her : er = 0
        · subst her
          clear q0 q1 q2 hfl0 hfl1
          have HN3 := Lib.hid (show ((rs.map Lr.lin).take (k + 1)).foldl plStep ([], []) = (es ++ [X], dl) by
            rw [HNX.out]
            unfold plStep
            rw [if_neg (by show ¬ ((joinF fs).2 = false ∨ (parS (joinF fs).1).2 ≠ 0); rw [HJ.out]; dsimp only; rw [HP.out]; simp)]
            show (es ++ [(parS (joinF fs).1).1], dl) = _
            rw [HJ.out]
            dsimp only
            rw [HP.out])
          go_upto_region 13 with (fail)
          refine wp_region_lit ?_
          refine wpList_step (fun K hK => ?_)
          go_simp
          refine hK _ _ ?_
          clear hK K
          refine wpList_loadC rfl _ 29 rfl w5.heap.size 29 [.int .u8 X.kind, .int .i64 X.side, .int .i64 X.player, .int .i64 X.other, .bool X.yes, .int .i64 X.runs, .int .i64 X.overs, .int .u8 X.ball.ty, .int .u8 X.ball.src, .int .i64 X.ball.runs, .int .i64 X.ball.short, .int .i64 X.ball.bd, .bool X.ball.cr, .int .u8 X.ball.how, .int .i64 X.ball.vic, .int .i64 X.ball.fd, .int .i64 X.ball.sd, .bool X.ball.sub, .int .i64 X.ball.sec] _ rfl (by rfl) (by rfl) (by rfl) HE6.out ?_
          refine wpList_step (fun K hK => ?_)
          go_simp
          refine hK _ _ ?_
          clear hK K
          refine wpList_app1 Tryz.evElem _ rfl (.tmp 58) (.tmp 60) rfl w2.heap.size A c es rfl ?o1 X W6.heap.size 1 rfl ?o2 ?o3 ?o4 ?o5 ?_
          case o1 => exact World.ownsRow.alloc (HS.out.to HB6.out).ev _
          case o2 => first | exact heap_alloc_new _ _ | exact (Array.getElem?_eq_some_iff.1 (heap_alloc_new _ _)).2
          case o3 => unfold maxLen; omega
          case o4 => omega
          case o5 => have := (cur_step1 HB.out HB6.out).size; first | omega | (simp; omega)
          intro g2 cap w8 ha
          have hb8 := (app1_end (cur_step1 HB.out HB6.out) (own_base HS.out.ev) (cur_new _ _) ha).1
          have hs8 := HS.out.evt (cur_step1 HB6.out (cur_new _ _)) ha
          have HB8 := Lib.hid hb8
          have HS8 := Lib.hid hs8
          clear ha hb8 hs8
          go_wp2_with (fail)
          exact ⟨⟨k + 1, es ++ [X], some ⟨g2, 0, none⟩, cap, dl, B, cb, by omega, rfl, by simp, rfl, by simp; omega, by omega, HS8.out, HN3.out, HB8.out⟩, by show rs.length - (k + 1) < rs.length - k; omega⟩
        · have ger : (er != 0) = true := by simpa using her
          have HCD := Lib.hid (show ((true : Bool) = false ∨ er ≠ 0) from .inr her)
          clear her
          have HN2 := Lib.hid (show ((rs.map Lr.lin).take (k + 1)).foldl plStep ([], []) = if dl.length < 50 then (es, dl ++ [⟨num, fcol, 4⟩]) else (es, dl) by
            rw [HNX.out]
            unfold plStep
            rw [if_pos (by show (joinF fs).2 = false ∨ (parS (joinF fs).1).2 ≠ 0; rw [HJ.out]; dsimp only; rw [HP.out]; exact HCD.out), HCOL.out])
          by_cases hd50 : dl.length < 50
          · have g5 : decide ((dl.length : Int) < 50) = true := by simp; omega
            have HN3 := Lib.hid (show ((rs.map Lr.lin).take (k + 1)).foldl plStep ([], []) = (es, dl ++ [⟨num, fcol, 4⟩]) by rw [HN2.out, if_pos hd50])
            go_wp2_with (fail)
            have ol := World.ownsRow.lt HS.out.dg
            have n1 : (Value.slice B dl.length cb).ownBlock ≠ some wr.heap.size := fun e => by have := ol _ e; omega
            have n2 : (Value.slice B dl.length cb).ownBlock ≠ some g := fun e => by have := ol _ e; have := HGL.out; omega
            have hw26 : w2.heap.size ≤ W6.heap.size := Nat.le_trans HB.out.size HB6.out.size
            have hx6 := HX6.out.lt
            have hg6 : g < W6.heap.size := Nat.lt_of_lt_of_le HGL.out hw26
            clear ol
            go_region_held3 (fun w' => w'.cell? ⟨wr.heap.size, 0, none⟩ = some (.int .i64 num) ∧ w'.cell? ⟨wr.heap.size, 1, none⟩ = some (.slice (some ⟨g, 0, none⟩) fs.length gc) ∧ w'.cell? ⟨g, 1, none⟩ = some (.int .i64 fcol))
              (first
                | go_keep
                | (go_split_ands
                   refine ⟨?_, ?_, ?_⟩
                   · (rw [ha.far (by simp; omega) n1]; assumption)
                   · (rw [ha.far (by simp; omega) n1]; assumption)
                   · (rw [ha.far (by simp; omega) n2]; assumption)))
              ((refine step_app1 Tryz.dgElem _ (by rfl) _ _ (by rfl) w2.heap.size B cb dl (by rfl) ((World.ownsRow.alloc (HS.out.to HB6.out).dg _).drew) (⟨num, fcol, 4⟩ : Dg) W6.heap.size 1 (by rfl) (heap_alloc_new W6 _) (by unfold maxLen; omega) (by omega) (by simp; omega) ?_; intro g2 cap w8 ha))
            have hb8 := (app1_end (cur_step1 HB.out HB6.out) (own_base HS.out.dg) ((cur_new W6 _).drew) ha).1
            have hs8 := HS.out.diag (cur_step1 HB6.out (cur_new W6 _).drew) ha
            have HB8 := Lib.hid hb8
            have HS8 := Lib.hid hs8
            clear ha hb8 hs8
            go_wp2_with (fail)
            exact ⟨⟨k + 1, es, A, c, dl ++ [⟨num, fcol, 4⟩], some ⟨g2, 0, none⟩, cap, by omega, rfl, rfl, by simp, by omega, by simp; omega, HS8.out, HN3.out, HB8.out⟩, by show rs.length - (k + 1) < rs.length - k; omega⟩
          · have g5 : decide ((dl.length : Int) < 50) = false := by simp; omega
            have HN3 := Lib.hid (show ((rs.map Lr.lin).take (k + 1)).foldl plStep ([], []) = (es, dl) by rw [HN2.out, if_neg hd50])
            go_wp2_with (fail)
            exact ⟨⟨k + 1, es, A, c, dl, B, cb, by omega, rfl, rfl, rfl, by omega, by omega, HS.out.to HB6.out, HN3.out, cur_step1 HB.out HB6.out⟩, by show rs.length - (k + 1) < rs.length - k; omega⟩
    · have hkn : k = rs.length := by omega
      have g9 : ¬ k < rs.length := hkl
      have HF := Lib.hid (show (rs.map Lr.lin).foldl plStep ([], []) = (es, dl) by rw [← HSPK.out, hkn, ← List.length_map (f := Lr.lin), List.take_length])
      have hbw : w.heap.size ≤ w2.heap.size := HB2.out.size
      clear hkn
      by_cases hdl0 : dl = []
      · subst hdl0
        by_cases h4000 : 4000 < es.length
        · have g5 : decide (4000 < (es.length : Int)) = true := by simp; omega
          have HFI := Lib.hid (show R = ([], [⟨1, 1, 9⟩]) by rw [HRR.out, HF.out, if_neg (by simp), if_pos h4000])
          go_wp2_with (fail)
          go_ret2
          rw [HFI.out]
          exact ⟨none, 0, some ⟨wr.heap.size, 0, none⟩, 1, rfl, World.ownsRow_nil _ _ _ _, World.ownsRow_lit wr (dgE ⟨1, 1, 9⟩).toArray 1 (by have := HB.out.size; omega) (by decide) rfl, cur_step1 (cur_step1 HB2.out HB.out) (cur_new _ _)⟩
        · have g5 : decide (4000 < (es.length : Int)) = false := by simp; omega
          have HFI := Lib.hid (show R = (es, []) by rw [HRR.out, HF.out, if_neg (by simp), if_neg h4000])
          go_wp2_with (fail)
          go_ret2
          rw [HFI.out]
          exact ⟨A, c, none, 0, rfl, own_mono HS.out.ev hbw, World.ownsRow_nil _ _ _ _, cur_step1 HB2.out HB.out⟩
      · have hdl1 : 0 < dl.length := List.length_pos_iff.2 hdl0
        have HFI := Lib.hid (show R = ([], dl) by rw [HRR.out, HF.out, if_pos hdl0])
        clear hdl0
        go_wp2_with (fail)
        go_ret2
        rw [HFI.out]
        exact ⟨none, 0, B, cb, rfl, World.ownsRow_nil _ _ _ _, own_mono HS.out.dg hbw, cur_step1 HB2.out HB.out⟩
end
end Go.Proofs.YtgkjcapoddjkhaaGreatDoor
