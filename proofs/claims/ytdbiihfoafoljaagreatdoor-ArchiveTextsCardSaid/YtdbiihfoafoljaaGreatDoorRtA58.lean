/-
  Texts of one chapter, put together (a claim holds at most sixty files).
-/
import Derived.Test.YtdbiihfoafoljaaGreatDoorEvT
import Derived.Test.YtdbiihfoafoljaaGreatDoorEvL
import Derived.Test.YtdbiihfoafoljaaGreatDoorNotPa
import Derived.Deep.MidRow
import Derived.StillTailTactics
import Derived.Test.YtdbiihfoafoljaaGreatDoorArcP
import Derived.Test.YtdbiihfoafoljaaGreatDoorTokP
set_option linter.unusedSimpArgs false
set_option linter.unusedVariables false
namespace Go.Proofs.YtdbiihfoafoljaaGreatDoor
section
/-! Chapter 8's log in plain Lean: read from the lines of a source. -/
open Go.RowKit
/-! Chapter 8's log. -/
def joinF (fs : List Fld) : List UInt8 × Bool := if fs.any (·.quoted) then ([], false) else (joinS (fs.map (·.text)), true)
def ParP (s : List UInt8) : Ev × Int := parE (guessE (splitC 32 s)) s
def colL (x : Lin) : Int := match x.fs with
  | [] => 0
  | f :: _ => f.col
def plStep (a : List Ev × List Dg) (x : Lin) : List Ev × List Dg :=
  if (joinF x.fs).2 = false ∨ (ParP (joinF x.fs).1).2 ≠ 0 then (if a.2.length < 50 then (a.1, a.2 ++ [⟨x.num, colL x, 4⟩]) else a)
  else (a.1 ++ [(ParP (joinF x.fs).1).1], a.2)
def ParLogP (src : List UInt8) : List Ev × List Dg :=
  if (splitP src).2 ≠ [] then ([], (splitP src).2)
  else if ((splitP src).1.foldl plStep ([], [])).2 ≠ [] then ([], ((splitP src).1.foldl plStep ([], [])).2)
  else if 4000 < ((splitP src).1.foldl plStep ([], [])).1.length then ([], [⟨1, 1, 9⟩])
  else (((splitP src).1.foldl plStep ([], [])).1, [])
/-- The chapter's example. -/
def exLog : List UInt8 := [84, 79, 83, 83, 32, 49, 32, 66, 65, 84, 10, 80, 76, 65, 89, 10]
theorem exLog_is : ParLogP exLog = ([], [⟨2, 1, 4⟩]) := by decide +kernel
end

section
/-! Chapter 8: a field of a line is taken, by the program. -/
open Go.RowKit
set_option maxRecDepth 100000
set_option maxHeartbeats 4000000
theorem kp_set {g : Nat} {w w2 : World} (hb : Below w.heap.size w w2) (j : Nat) (u : Value) : Kp g (.slice none 0 0) w (w2.setCell ⟨g, j, none⟩ u) := by
  have hst := below_set (Below.refl 0 w2) (Nat.zero_le g) j u
  exact ⟨hst.os.trans hb.os, hst.tape.trans hb.tape, hst.output.trans hb.output, Nat.le_trans hb.size hst.size, fun k hk hkg _ => by rw [heap_setCell_other w2 ⟨g, j, none⟩ k _ hkg, hb.block k hk]⟩
theorem Kp.set {g : Nat} {v : Value} {w w2 : World} (h : Kp g v w w2) (j : Nat) (u : Value) : Kp g v w (w2.setCell ⟨g, j, none⟩ u) := by
  have hst := below_set (Below.refl 0 w2) (Nat.zero_le g) j u
  exact ⟨hst.os.trans h.os, hst.tape.trans h.tape, hst.output.trans h.output, Nat.le_trans h.size hst.size, fun k hk hkg hv => by rw [heap_setCell_other w2 ⟨g, j, none⟩ k _ hkg, h.block k hk hkg hv]⟩
theorem Kp.of {g : Nat} {v : Value} {w w2 : World} (hb : Below w.heap.size w w2) : Kp g v w w2 := ⟨hb.os, hb.tape, hb.output, hb.size, fun k hk _ _ => hb.block k hk⟩
theorem ball_set {w : World} {g : Nat} {x : Ev} (hb : Blk w g 38 (evE x)) (d : Del) : Blk (w.setCells g 7 (delA d).toList) g 38 (evE { x with ball := d }) ∧ ∀ w0, Below w0.heap.size w0 w → Kp g (.slice none 0 0) w0 (w.setCells g 7 (delA d).toList) := by
  simp only [delA, World.setCells]
  exact ⟨(((((((((((hb.set 7 _).set 8 _).set 9 _).set 10 _).set 11 _).set 12 _).set 13 _).set 14 _).set 15 _).set 16 _).set 17 _).set 18 _, fun w0 h => (((((((((((kp_set h 7 _).set 8 _).set 9 _).set 10 _).set 11 _).set 12 _).set 13 _).set 14 _).set 15 _).set 16 _).set 17 _).set 18 _⟩
theorem del_info : (Tryz.prog.info? 36).map (·.size) = some 12 := by kernel_rfl
theorem delA_one (d : Del) : (delA d).all (·.oneCell') = true := by simp [delA, Value.oneCell']
theorem ball_there {w : World} {g : Nat} {x : Ev} (hb : Blk w g 38 (evE x)) (d : Del) : w.there g 7 (delA d).size := by
  intro j hj
  have hj : j < 12 := hj
  refine ⟨?_, hb.frozen _⟩
  rw [hb.cell]
  have : 7 + j < (evE x).length := by rw [evE_len]; omega
  rw [List.getElem?_eq_getElem this]
  rfl
theorem take8_p (n : Nat) (hn : n < 16) (x : Ev) (c : UInt8) (hc : c ∈ allC) (l : List UInt8) (hl : l.length ≤ 1000000) (g : Nat) (w : World) (hw : LibW w) (hb : Blk w g 38 (evE x)) :
    Calls Tryz.prog 63 #[.pointer (some ⟨g, 0, none⟩), .agg (fmE n).toArray, .int .u8 c.toNat, .string (sA l)] w fun e' w' => e' = .returned (.tuple #[]) ∧ Blk w' g 38 (evE (takeF ((n : Int) + 1) x c l)) ∧ Kp g (.slice none 0 0) w w' := by
  obtain ⟨sl, hsl⟩ : ∃ y, sA l = y := ⟨_, rfl⟩
  have hsz : sl.size ≤ 1000000 := by rw [← hsl, sA_sz]; exact hl
  rw [hsl]
  have HSL := Lib.hid hsl
  have HLL := Lib.hid hl
  have HL := Lib.hid hw
  obtain ⟨w1, hw1⟩ : ∃ y, w.alloc (.cells (fmE n).toArray 91) = y := ⟨_, rfl⟩
  have HB1 := Lib.hid (show Below w.heap.size w w1 by rw [← hw1]; exact cur_new _ _)
  have HF1 := Lib.hid (show Blk w1 w.heap.size 91 (fmE n) by rw [← hw1]; exact Blk.new w _ _)
  have HE1 := Lib.hid (show Blk w1 g 38 (evE x) from hb.to HB1.out)
  have HW1 := Lib.hid hw1
  clear hw1 hsl hl hw hb
  go_enter Tryz.func63, Tryz.ntmps63
  go_wp2_with (rw [HW1.out])
  have hcall := number_t sl (by omega) 0 1000000 (by decide) (by decide) w1 (HL.out.to HB1.out)
  rw [← HSL.out, sA_data, HSL.out] at hcall
  refine hcall.mono ?_
  clear hcall
  obtain ⟨v, hv⟩ : ∃ y, (numP l 0 1000000).1 = y := ⟨_, rfl⟩
  rw [hv]
  have HV := Lib.hid hv
  clear hv
  rintro e' w2 ⟨rfl, hb2⟩
  have HB2 := Lib.hid (cur_step1 HB1.out hb2)
  have HE2 := Lib.hid (HE1.out.to hb2)
  have HF2 := Lib.hid (HF1.out.to hb2)
  have hg := HE2.out.lt
  clear hb2
  simp only [allC, List.mem_cons, List.not_mem_nil, or_false] at hc
  rcases hc with hm | hm | hm | hm | hm | hm | hm
  · have HCE := Lib.hid hm
    have hcn : c.toNat = 115 := by rw [hm]; rfl
    clear hm
    have d1 : w2.cell? ⟨g, 1, none⟩ = some (.int .i64 x.side) := HE2.out.cell 1
    have z1 := HE2.out.frozen 1
    go_wp2_with (fail)
    have hfin : takeF ((n : Int) + 1) x c l = { x with side := v } := by rw [HCE.out, ← HV.out]; rfl
    go_end0
    rw [hfin]
    exact ⟨rfl, HE2.out.set 1 _, kp_set HB2.out 1 _⟩
  · have HCE := Lib.hid hm
    have hcn : c.toNat = 112 := by rw [hm]; rfl
    clear hm
    have d2 : w2.cell? ⟨g, 2, none⟩ = some (.int .i64 x.player) := HE2.out.cell 2
    have z2 := HE2.out.frozen 2
    go_wp2_with (fail)
    have hfin : takeF ((n : Int) + 1) x c l = { x with player := v } := by rw [HCE.out, ← HV.out]; rfl
    go_end0
    rw [hfin]
    exact ⟨rfl, HE2.out.set 2 _, kp_set HB2.out 2 _⟩
  · have HCE := Lib.hid hm
    have hcn : c.toNat = 111 := by rw [hm]; rfl
    clear hm
    have d3 : w2.cell? ⟨g, 3, none⟩ = some (.int .i64 x.other) := HE2.out.cell 3
    have z3 := HE2.out.frozen 3
    go_wp2_with (fail)
    have hfin : takeF ((n : Int) + 1) x c l = { x with other := v } := by rw [HCE.out, ← HV.out]; rfl
    go_end0
    rw [hfin]
    exact ⟨rfl, HE2.out.set 3 _, kp_set HB2.out 3 _⟩
  · have HCE := Lib.hid hm
    have hcn : c.toNat = 121 := by rw [hm]; rfl
    clear hm
    obtain ⟨s2, hs2⟩ : ∃ y, sA (yesT.getD n []) = y := ⟨_, rfl⟩
    have f2 : w2.cell? ⟨w.heap.size, 2, none⟩ = some (.string s2) := by rw [← hs2]; exact HF2.out.cell 2
    have d4 : w2.cell? ⟨g, 4, none⟩ = some (.bool x.yes) := HE2.out.cell 4
    have z4 := HE2.out.frozen 4
    have heq : (sl.toList == s2.toList) = decide (l = yesL ((n : Int) + 1)) := by
      rw [← HSL.out, ← hs2, sA_to, sA_to]
      unfold yesL
      rw [show ((n : Int) + 1 - 1).toNat = n by omega]
      rw [Bool.eq_iff_iff]
      simp
    obtain ⟨q, hq⟩ : ∃ y, decide (l = yesL ((n : Int) + 1)) = y := ⟨_, rfl⟩
    rw [hq] at heq
    have HQ := Lib.hid hq
    clear hq hs2
    go_wp2_with (fail)
    have hfin : takeF ((n : Int) + 1) x c l = { x with yes := q } := by rw [HCE.out, ← HQ.out]; rfl
    go_end0
    rw [hfin]
    exact ⟨rfl, HE2.out.set 4 _, kp_set HB2.out 4 _⟩
  · have HCE := Lib.hid hm
    have hcn : c.toNat = 114 := by rw [hm]; rfl
    clear hm
    have d5 : w2.cell? ⟨g, 5, none⟩ = some (.int .i64 x.runs) := HE2.out.cell 5
    have z5 := HE2.out.frozen 5
    go_wp2_with (fail)
    have hfin : takeF ((n : Int) + 1) x c l = { x with runs := v } := by rw [HCE.out, ← HV.out]; rfl
    go_end0
    rw [hfin]
    exact ⟨rfl, HE2.out.set 5 _, kp_set HB2.out 5 _⟩
  · have HCE := Lib.hid hm
    have hcn : c.toNat = 118 := by rw [hm]; rfl
    clear hm
    have d6 : w2.cell? ⟨g, 6, none⟩ = some (.int .i64 x.overs) := HE2.out.cell 6
    have z6 := HE2.out.frozen 6
    go_wp2_with (fail)
    have hfin : takeF ((n : Int) + 1) x c l = { x with overs := v } := by rw [HCE.out, ← HV.out]; rfl
    go_end0
    rw [hfin]
    exact ⟨rfl, HE2.out.set 6 _, kp_set HB2.out 6 _⟩
  · have HCE := Lib.hid hm
    have hcn : c.toNat = 98 := by rw [hm]; rfl
    clear hm
    have hcall := parse7_p l HLL.out w2 (HL.out.to HB2.out)
    rw [HSL.out] at hcall
    go_wp2_with (fail)
    refine hcall.mono ?_
    clear hcall
    obtain ⟨D, hD⟩ : ∃ D, (parD (guessP l) l).1 = D := ⟨_, rfl⟩
    rw [hD]
    have HD := Lib.hid hD
    clear hD
    rintro e' w3 ⟨rfl, hb3⟩
    have HB3 := Lib.hid (cur_step1 HB2.out hb3)
    have HE3 := Lib.hid (HE2.out.to hb3)
    clear hb3
    go_wp2_with (refine wpList_store_mid rfl 36 _ _ rfl g 7 (delA D) (by rfl) (by rfl) (ball_there HE3.out D) del_info (delA_one D) ?_)
    have hfin : takeF ((n : Int) + 1) x c l = { x with ball := D } := by rw [HCE.out, ← HD.out]; rfl
    go_end0
    rw [hfin]
    exact ⟨rfl, (ball_set HE3.out D).1, (ball_set HE3.out D).2 w HB3.out⟩
end

section
/-! Chapter 8: the word of a line is looked up, by the program. -/
open Go.RowKit
set_option maxRecDepth 100000
set_option maxHeartbeats 4000000
attribute [-simp] Tryz.isAgg91 Tryz.sizeOf91
theorem sA_eqb (a b : List UInt8) : ((sA a).toList == (sA b).toList) = decide (a = b) := by
  rw [sA_to, sA_to, Bool.eq_iff_iff]
  simp
theorem parse1_p (n : Nat) (wl : List UInt8) (p : Nat) (w : World) (hp : w.cell? ⟨p, 0, none⟩ = some (.string (sA wl))) : Calls Tryz.prog 62 #[.agg (fmE n).toArray, .pointer (some ⟨p, 0, none⟩)] w fun e w' => e = .returned (.bool (decide (wordT.getD n [] = wl))) ∧ Below w.heap.size w w' := by
  obtain ⟨w1, hw1⟩ : ∃ y, w.alloc (.cells (fmE n).toArray 91) = y := ⟨_, rfl⟩
  have hb1 : Below w.heap.size w w1 := by rw [← hw1]; exact cur_new _ _
  have hF1 : Blk w1 w.heap.size 91 (fmE n) := by rw [← hw1]; exact Blk.new w _ _
  have hpl := Lib.lt_of_cell hp
  have d0 : w1.cell? ⟨w.heap.size, 0, none⟩ = some (.string (sA (wordT.getD n []))) := hF1.cell 0
  have d1 : w1.cell? ⟨p, 0, none⟩ = some (.string (sA wl)) := (hb1.cell (p := ⟨p, 0, none⟩) hpl).trans hp
  have he := sA_eqb (wordT.getD n []) wl
  obtain ⟨v, hv⟩ : ∃ y, decide (wordT.getD n [] = wl) = y := ⟨_, rfl⟩
  rw [hv] at he ⊢
  generalize sA (wordT.getD n []) = sa at *
  generalize sA wl = sb at *
  have HW1 := Lib.hid hw1
  have HB1 := Lib.hid hb1
  clear hw1 hb1 hF1 hv hp
  go_enter Tryz.func62, Tryz.ntmps62
  go_wp2_with (rw [HW1.out])
  go_ret
  exact ⟨rfl, HB1.out⟩
theorem idx_none {l : List (List UInt8)} {x : List UInt8} (h : ∀ (i : Nat) (y : List UInt8), l[i]? = some y → y ≠ x) : l.idxOf? x = none := by
  rw [List.idxOf?, List.findIdx?_eq_none_iff]
  intro y hy
  obtain ⟨i, hi⟩ := List.getElem?_of_mem hy
  simpa using h i y hi
theorem idx_some {l : List (List UInt8)} {x : List UInt8} {k : Nat} (h : ∀ (i : Nat) (y : List UInt8), i < k → l[i]? = some y → y ≠ x) (hk : l[k]? = some x) : l.idxOf? x = some k := by
  rw [List.idxOf?, List.findIdx?_eq_some_iff_getElem]
  obtain ⟨hlt, he⟩ := List.getElem?_eq_some_iff.1 hk
  refine ⟨hlt, by simp [he], fun j hj => ?_⟩
  have := h j l[j] hj (List.getElem?_eq_getElem _)
  simpa using this
theorem wordT_at {n : Nat} (hn : n < 16) : wordT[n]? = some (wordT.getD n []) := by
  have h : n < wordT.length := hn
  simp [List.getD, List.getElem?_eq_getElem h]
def idxV (wl : List UInt8) : Int := match kindW wl with
  | none => -1
  | some i => i
def IdR (wl : List UInt8) (w : World) (iv : Value) (wr : World) : Prop := ∃ k : Nat, k ≤ 16 ∧ iv = .int .i64 k ∧ (∀ i y, i < k → wordT[i]? = some y → y ≠ wl) ∧ Below w.heap.size w wr
theorem index_p (fb p : Nat) (wl : List UInt8) (CL : Value) (hCL : CL = .func (.func 62) #[] #[.pointer (some ⟨p, 0, none⟩)]) (w : World) (hb : Blk w fb 91 fmL) (hp : w.cell? ⟨p, 0, none⟩ = some (.string (sA wl))) :
    Calls Tryz.prog 61 #[.slice (some ⟨fb, 0, none⟩) 16 16, CL] w fun e w' => e = .returned (.int .i64 (idxV wl)) ∧ Below w.heap.size w w' := by
  subst hCL
  obtain ⟨R, hR⟩ : ∃ R, idxV wl = R := ⟨_, rfl⟩
  rw [hR]
  have HR := Lib.hid hR
  have HF := Lib.hid hb
  have HP := Lib.hid hp
  clear hR hb hp
  go_enter Tryz.func61, Tryz.ntmps61
  go_wp2_with (fail)
  go_loopw [8] (IdR wl w) (fun i _ => 16 - (intOf i).toNat)
  case atStart => exact ⟨0, by omega, rfl, fun i y h => by omega, Below.refl _ _⟩
  case round =>
    obtain ⟨k, hk, rfl, hno, hb⟩ := hrel
    have HNO := Lib.hid hno
    have HB := Lib.hid hb
    have hF := HF.out.to hb
    have hP := (hb.cell (p := ⟨p, 0, none⟩) (Lib.lt_of_cell HP.out)).trans HP.out
    have HF2 := Lib.hid hF
    have HP2 := Lib.hid hP
    clear hno hb hF hP
    by_cases hk16 : k < 16
    · obtain ⟨N, hN⟩ : ∃ N : Nat, N = 4 := ⟨_, rfl⟩
      have hA : ∀ w, Sem.run Tryz.prog (isAgg 91) w = .ok true w := fun w => Tryz.isAgg91 w
      have hZ : ∀ w, Sem.run Tryz.prog (sizeOf 91) w = .ok N w := fun w => by rw [hN]; exact Tryz.sizeOf91 w
      have hl1 := form_load HF2.out (fun (j : Nat) (v : Value) (hv : (fmE k)[j]? = some v) => (fm_at hk16 (by have := (List.getElem?_eq_some_iff.1 hv).1; exact this)).trans hv) rfl (show (fmE k).length = N by rw [hN]; rfl)
      clear hN
      go_wp2_with (fail)
      refine (parse1_p k wl p _ HP2.out).mono ?_
      rintro e' w2 ⟨rfl, hb2⟩
      have HB2 := Lib.hid (cur_step1 HB.out hb2)
      clear hb2
      by_cases he : wordT.getD k [] = wl
      · have hd : decide (wordT.getD k [] = wl) = true := by simpa using he
        rw [hd]
        have HRR := Lib.hid (show R = (k : Int) by rw [← HR.out]; unfold idxV kindW; rw [idx_some HNO.out (by rw [wordT_at hk16, he])])
        clear he hd
        go_wp2_with (fail)
        go_ret
        rw [HRR.out]
        exact ⟨rfl, HB2.out⟩
      · have hd : decide (wordT.getD k [] = wl) = false := by simpa using he
        rw [hd]
        have HN2 := Lib.hid (show ∀ i y, i < k + 1 → wordT[i]? = some y → y ≠ wl from fun i y hi hy => by
          rcases (by omega : i < k ∨ i = k) with h | rfl
          · exact HNO.out i y h hy
          · rw [wordT_at hk16] at hy; injection hy with hy; rw [← hy]; exact he)
        clear he hd
        go_wp2_with (fail)
        exact ⟨⟨k + 1, by omega, rfl, HN2.out, HB2.out⟩, by show 16 - (k + 1) < 16 - k; omega⟩
    · have hk17 : k = 16 := by omega
      subst hk17
      have HRR := Lib.hid (show R = -1 by rw [← HR.out]; unfold idxV kindW; rw [idx_none (fun i y h => HNO.out i y (by have := (List.getElem?_eq_some_iff.1 h).1; exact this) h)])
      go_wp2_with (fail)
      go_ret
      rw [HRR.out]
      exact ⟨rfl, HB.out⟩
end

section
/-! Chapter 8: Parse of the program. -/
open Go.RowKit
set_option maxRecDepth 100000
set_option maxHeartbeats 4000000
theorem takeAll_snoc (k : Int) : ∀ (cs : List UInt8) (ws : List (List UInt8)) (e : Ev) (c : UInt8) (w : List UInt8), cs.length = ws.length → takeAll k e (cs ++ [c]) (ws ++ [w]) = takeF k (takeAll k e cs ws) c w
  | [], [], e, c, w, _ => by simp [takeAll]
  | x :: cs, y :: ws, e, c, w, h => by
    have := takeAll_snoc k cs ws (takeF k e x y) c w (by simpa using h)
    simpa [takeAll] using this
  | [], _ :: _, _, _, _, h => by simp at h
  | _ :: _, [], _, _, _, h => by simp at h
theorem parD_ball (w : List UInt8) : 0 ≤ ((parD (guessP w) w).1).how ∧ 0 ≤ ((parD (guessP w) w).1).src := by
  unfold parD
  split
  · exact ⟨(guessP_how w).1, guessP_src w⟩
  · exact ⟨Int.le_refl 0, Int.le_refl 0⟩
theorem takeF_ball {k : Int} {e : Ev} {c : UInt8} {w : List UInt8} (h : 0 ≤ e.ball.how ∧ 0 ≤ e.ball.src) : 0 ≤ (takeF k e c w).ball.how ∧ 0 ≤ (takeF k e c w).ball.src := by
  unfold takeF
  split
  · exact h
  split
  · exact h
  split
  · exact h
  split
  · exact h
  split
  · exact h
  split
  · exact parD_ball w
  · exact h
theorem takeAll_ball (k : Int) : ∀ (cs : List UInt8) (ws : List (List UInt8)) (e : Ev), 0 ≤ e.ball.how ∧ 0 ≤ e.ball.src → 0 ≤ (takeAll k e cs ws).ball.how ∧ 0 ≤ (takeAll k e cs ws).ball.src
  | [], _, e, h => by simpa [takeAll] using h
  | _ :: _, [], e, h => by simpa [takeAll] using h
  | c :: cs, w :: ws, e, h => by
    have := takeAll_ball k cs ws (takeF k e c w) (takeF_ball h)
    simpa [takeAll] using this
theorem takeF_kind (k : Int) (e : Ev) (c : UInt8) (w : List UInt8) : (takeF k e c w).kind = e.kind := by
  unfold takeF
  repeat (first | rfl | split)
theorem evt_info : (Tryz.prog.info? 38).map (·.size) = some 19 := by kernel_rfl
theorem evt_oneP (e : Ev) : (evE e).toArray.all (·.oneCell') = true := by simp [evE, delE, Value.oneCell']
/-- What Parse's own blocks hold: the result, the words' row, the word's box, the event. -/
structure PaS (l : List UInt8) (r : Nat) (w wr : World) (wd : List UInt8) (x : Ev) : Prop where
  res : Blk wr r 38 (evE zeroE)
  row : Blk wr (r + 1) 9 ((splS 32 l).map Value.string)
  box : Blk wr (r + 2) 9 [.string (sA wd)]
  ev : Blk wr (r + 3) 38 (evE x)
  bl : Below w.heap.size w wr
theorem PaS.to {l : List UInt8} {r : Nat} {w wr w1 : World} {wd : List UInt8} {x : Ev} (h : PaS l r w wr wd x) (hb : Below wr.heap.size wr w1) : PaS l r w w1 wd x :=
  ⟨h.res.to hb, h.row.to hb, h.box.to hb, h.ev.to hb, cur_step1 h.bl hb⟩
theorem PaS.set {l : List UInt8} {r : Nat} {w wr : World} {wd : List UInt8} {x y : Ev} (h : PaS l r w wr wd x) (hr : w.heap.size ≤ r) (j : Nat) (u : Value) (hy : (evE x).set j u = evE y) : PaS l r w (wr.setCell ⟨r + 3, j, none⟩ u) wd y :=
  ⟨h.res.other (by omega) j u, h.row.other (by omega) j u, h.box.other (by omega) j u, by rw [← hy]; exact h.ev.set j u, below_set h.bl (by omega) j u⟩
theorem PaS.setW {l : List UInt8} {r : Nat} {w wr : World} {wd wd2 : List UInt8} {x : Ev} (h : PaS l r w wr wd x) (hr : w.heap.size ≤ r) : PaS l r w (wr.setCell ⟨r + 2, 0, none⟩ (.string (sA wd2))) wd2 x :=
  ⟨h.res.other (by omega) _ _, h.row.other (by omega) _ _, h.box.set 0 _, h.ev.other (by omega) _ _, below_set h.bl (by omega) _ _⟩
theorem PaS.kp {l : List UInt8} {r : Nat} {w wr w1 : World} {wd : List UInt8} {x y : Ev} (h : PaS l r w wr wd x) (hr : w.heap.size ≤ r) (hk : Kp (r + 3) (.slice none 0 0) wr w1) (hy : Blk w1 (r + 3) 38 (evE y)) : PaS l r w w1 wd y :=
  ⟨hk.blk h.res (by omega) (by simp [Value.ownBlock]), hk.blk h.row (by omega) (by simp [Value.ownBlock]), hk.blk h.box (by omega) (by simp [Value.ownBlock]), hy,
    h.bl.trans (hk.below (by have := h.bl.size; omega) (by omega) (fun k e => by simp [Value.ownBlock] at e))⟩
def parS (l : List UInt8) : Ev × Int := parE (guessE (splitC 32 l)) l
theorem pa_new (w : World) (l w0 : List UInt8) (r : Nat) (hr : w.heap.size = r) : PaS l r w ((((w.alloc (.cells (evE zeroE).toArray 38)).alloc (.cells ((splS 32 l).map Value.string).toArray 9)).alloc (.cells #[.string (sA w0)] 9)).alloc (.cells (evE zeroE).toArray 38)) w0 zeroE := by
  subst hr
  have b1 := Blk.new w 38 (evE zeroE)
  have b2 := Blk.new (w.alloc (.cells (evE zeroE).toArray 38)) 9 ((splS 32 l).map Value.string)
  have b3 := Blk.new ((w.alloc (.cells (evE zeroE).toArray 38)).alloc (.cells ((splS 32 l).map Value.string).toArray 9)) 9 [.string (sA w0)]
  have b4 := Blk.new (((w.alloc (.cells (evE zeroE).toArray 38)).alloc (.cells ((splS 32 l).map Value.string).toArray 9)).alloc (.cells #[.string (sA w0)] 9)) 38 (evE zeroE)
  simp only [World.size_alloc] at b2 b3 b4
  exact ⟨((b1.to (cur_new _ _)).to (cur_new _ _)).to (cur_new _ _), (b2.to (cur_new _ _)).to (cur_new _ _), b3.to (cur_new _ _), b4, cur_step1 (cur_step1 (cur_step1 (cur_new w _) (cur_new _ _)) (cur_new _ _)) (cur_new _ _)⟩
def idK : Option Nat → Int
  | none => -1
  | some i => i
theorem idxV_is (wl : List UInt8) : idxV wl = idK (kindW wl) := by unfold idxV idK; cases kindW wl <;> rfl
def gsK (K : Option Nat) (w0 : List UInt8) (ws : List (List UInt8)) : Option Ev := match K with
  | none => none
  | some i => if ws.length ≠ (fldsL ((i : Int) + 1)).length then none else some (takeAll ((i : Int) + 1) ⟨(i : Int) + 1, 0, 0, 0, decide (w0 = sTO), 0, 0, zeroD⟩ (fldsL ((i : Int) + 1)) ws)
theorem guess_is (w0 : List UInt8) (ws : List (List UInt8)) : guessE (w0 :: ws) = gsK (kindW (if w0 = sTO then sEN else w0)) w0 ws := by
  unfold guessE gsK
  dsimp only
  cases kindW (if w0 = sTO then sEN else w0) <;> rfl
def PlR (l : List UInt8) (r : Nat) (w : World) (wd : List UInt8) (tv : Bool) (i : Nat) (FL : List UInt8) (ws : List (List UInt8)) (fb : Nat) (iv : Value) (wr : World) : Prop := ∃ j : Nat, j ≤ FL.length ∧ iv = .int .i64 j ∧
  PaS l r w wr wd (takeAll ((i : Int) + 1) ⟨(i : Int) + 1, 0, 0, 0, tv, 0, 0, zeroD⟩ (FL.take j) (ws.take j)) ∧ Blk wr fb 91 fmL
theorem splitC_mlen (c : UInt8) : ∀ (l w : List UInt8), w ∈ splitC c l → w.length ≤ l.length
  | [], w, h => by simp [splitC] at h; subst h; simp
  | x :: l, w, h => by
    have ih := splitC_mlen c l
    unfold splitC at h
    split at h
    · rcases List.mem_cons.1 h with rfl | h
      · simp
      · have := ih w h; simp; omega
    · split at h
      · simp at h; subst h; simp
      · next q hq =>
        rcases List.mem_cons.1 h with rfl | h
        · have := ih _ (by rw [hq]; exact List.mem_cons_self)
          simp; omega
        · have := ih w (by rw [hq]; exact List.mem_cons_of_mem _ h)
          simp; omega
theorem parse8_p (l : List UInt8) (hl : l.length ≤ 1000000) (w : World) (hw : LibW w) : Calls Tryz.prog 31 #[.string (sA l)] w fun e' w' => e' = .returned (.tuple #[evV (parS l).1, .int .i64 (parS l).2]) ∧ Below w.heap.size w w' := by
  obtain ⟨m, hm⟩ := hw.maxlen
  obtain ⟨R, hR⟩ : ∃ R, parS l = R := ⟨_, rfl⟩
  rw [hR]
  have HR := Lib.hid hR
  have HL := Lib.hid hw
  obtain ⟨s, hs⟩ : ∃ s, sA l = s := ⟨_, rfl⟩
  have hsz : s.size ≤ 1000000 := by rw [← hs, sA_sz]; exact hl
  obtain ⟨L, hLe⟩ : ∃ L, splitC 32 l = L := ⟨_, rfl⟩
  have hN : Lib.countB s ⟨#[32]⟩ + 1 = L.length := by rw [← splS_len, ← hs, sA_list, ← hLe]; unfold splS; rw [List.length_map]
  have hL0 : L ≠ [] := by rw [← hLe]; exact splitC_ne 32 l
  obtain ⟨w0, ws, hL1⟩ : ∃ w0 ws, L = w0 :: ws := by cases L with | nil => exact absurd rfl hL0 | cons a b => exact ⟨a, b, rfl⟩
  have hlr : L.length ≤ 1000001 := by have := splitC_len 32 l; rw [hLe] at this; omega
  obtain ⟨r, hr⟩ : ∃ r, w.heap.size = r := ⟨_, rfl⟩
  obtain ⟨W0, hW0⟩ : ∃ y, w.alloc (.cells (evE zeroE).toArray 38) = y := ⟨_, rfl⟩
  have hm0 : W0.cell? ⟨0, 0, none⟩ = some (.int .i64 m) := by rw [← hW0]; exact ((cur_new w _).cell (Lib.lt_of_cell hm)).trans hm
  have SW0 := Lib.hid (show w.alloc (.cells #[.int .u8 0, .int .i64 0, .int .i64 0, .int .i64 0, .bool false, .int .i64 0, .int .i64 0, .int .u8 0, .int .u8 0, .int .i64 0, .int .i64 0, .int .i64 0, .bool false, .int .u8 0, .int .i64 0, .int .i64 0, .int .i64 0, .bool false, .int .i64 0] 38) = W0 from hW0)
  have HN := Lib.hid hN
  have HLe := Lib.hid hLe
  have HL1 := Lib.hid hL1
  have HS := Lib.hid hs
  have HRR := Lib.hid hr
  rw [hs]
  have hl1 : 1 ≤ L.length := by rw [hL1]; simp
  have HLP := Lib.hid (pa_new w l w0 r hr)
  rw [hW0] at HLP
  have h0 : W0.heap.size = r + 1 := by rw [← hW0, World.size_alloc, hr]
  have HH0 := Lib.hid h0
  clear hW0 hR hw hs hLe hN hL0 hL1 hm hr h0
  go_enter Tryz.func31, Tryz.ntmps31
  go_wp2_with (rw [SW0.out])
  refine (Tryz.split_p s ⟨#[32]⟩ m W0 (by omega) hm0 (by decide)).mono ?_
  rintro e' w2 ⟨rfl, hw2⟩
  rw [splS_map, ← HS.out, sA_list] at hw2
  rw [HN.out, HH0.out]
  have hbl2 : Blk w2 (r + 1) 9 ((splS 32 l).map Value.string) := by rw [hw2, ← HH0.out]; exact Blk.new W0 _ _
  have d0 : w2.cell? ⟨r + 1, 0, none⟩ = some (.string (sA w0)) := by rw [hbl2.cell]; unfold splS; rw [HLe.out, HL1.out]; rfl
  have h2s : w2.heap.size = r + 2 := by rw [hw2, World.size_alloc, HH0.out]
  have HW2 := Lib.hid hw2
  have H2S := Lib.hid h2s
  rw [← hw2] at HLP
  obtain ⟨z0, hz0⟩ : ∃ y, sA w0 = y := ⟨_, rfl⟩
  rw [hz0] at d0
  have HZ0 := Lib.hid hz0
  obtain ⟨W4, hW4⟩ : ∃ y, ((w2.alloc (.cells #[.string z0] 9)).alloc (.cells (evE zeroE).toArray 38)) = y := ⟨_, rfl⟩
  have HP4 := Lib.hid (show PaS l r w W4 w0 zeroE by rw [← hW4, ← HZ0.out]; exact HLP.out)
  have SW4 := Lib.hid (show (w2.alloc (.cells #[.string z0] 9)).alloc (.cells #[.int .u8 0, .int .i64 0, .int .i64 0, .int .i64 0, .bool false, .int .i64 0, .int .i64 0, .int .u8 0, .int .u8 0, .int .i64 0, .int .i64 0, .int .i64 0, .bool false, .int .u8 0, .int .i64 0, .int .i64 0, .int .i64 0, .bool false, .int .i64 0] 38) = W4 from hW4)
  have hrw : w.heap.size ≤ r := by have := HRR.out; omega
  have lr : r + 1 < w2.heap.size := by have := H2S.out; omega
  clear hw2 hbl2 h2s hz0 hW4 HLP SW0 hm0
  go_upto_region 4 with (fail)
  rw [SW4.out, H2S.out]
  rw [HRR.out, show r + 2 + 1 = r + 3 from rfl]
  obtain ⟨tv, htv⟩ : ∃ y, decide (w0 = sTO) = y := ⟨_, rfl⟩
  have gq : (z0.toList == [84, 73, 77, 69, 79, 85, 84]) = tv := by rw [← HZ0.out, ← htv, sA_to, Bool.eq_iff_iff]; simp [sTO]; exact ⟨fun h => decide_eq_true h, fun h => of_decide_eq_true h⟩
  have HTV := Lib.hid htv
  obtain ⟨wd, hwd⟩ : ∃ y, (if w0 = sTO then sEN else w0) = y := ⟨_, rfl⟩
  have HWD := Lib.hid hwd
  have p0 : W4.cell? ⟨r + 2, 0, none⟩ = some (.string z0) := by rw [← HZ0.out]; exact HP4.out.box.cell 0
  have p1 := HP4.out.box.frozen 0
  have p2 := HP4.out.box.lt
  clear htv hwd d0 lr
  go_upto_if 19 with (fail)
  go_cut [] (fun wx => PaS l r w wx wd ⟨0, 0, 0, 0, tv, 0, 0, zeroD⟩)
  case first =>
    cases tv
    · have hne : w0 ≠ sTO := by have := HTV.out; simpa using this
      have HE := Lib.hid (show wd = w0 by rw [← HWD.out, if_neg hne])
      clear hne
      go_wp2_with (fail)
      go_meet
      case rel => rw [HE.out]; exact HP4.out
    · have hne : w0 = sTO := by have := HTV.out; simpa using this
      have HE := Lib.hid (show wd = sEN by rw [← HWD.out, if_pos hne])
      clear hne
      obtain ⟨W5, hW5⟩ : ∃ y, W4.setCell ⟨r + 2, 0, none⟩ (.string ⟨#[69, 78, 84, 69, 82]⟩) = y := ⟨_, rfl⟩
      have HP5 := Lib.hid (show PaS l r w W5 sEN zeroE by rw [← hW5]; exact HP4.out.setW hrw)
      have S5 := Lib.hid hW5
      clear hW5
      have q0 : W5.cell? ⟨r + 3, 4, none⟩ = some (.bool false) := HP5.out.ev.cell 4
      have q1 := HP5.out.ev.frozen 4
      have q2 := HP5.out.ev.lt
      go_wp2_with (rw [S5.out])
      go_meet
      case rel => rw [HE.out]; exact HP5.out.set hrw 4 _ rfl
  case rest =>
  have HP6 := Lib.hid hcut
  clear hcut HP4 HW2 SW4 HH0 H2S HZ0 gq p0 p1 p2
  go_wp2_with (fail)
  refine (forms_q wc).mono ?_
  rintro e' w6 ⟨rfl, hf6, hb6⟩
  have HP7 := Lib.hid (HP6.out.to hb6)
  obtain ⟨fb, hfb⟩ : ∃ y, wc.heap.size = y := ⟨_, rfl⟩
  rw [hfb] at hf6 ⊢
  have HF7 := Lib.hid hf6
  have HFB := Lib.hid (show r + 3 < fb by have := HP6.out.ev.lt; omega)
  clear hf6 hb6 hfb HP6
  go_wp2_with (fail)
  refine (index_p fb (r + 2) wd _ rfl w6 HF7.out (HP7.out.box.cell 0)).mono ?_
  rintro e' w7 ⟨rfl, hb7⟩
  have HP8 := Lib.hid (HP7.out.to hb7)
  have HF8 := Lib.hid (HF7.out.to hb7)
  clear hb7 HP7 HF7
  obtain ⟨K, hK⟩ : ∃ K, kindW wd = K := ⟨_, rfl⟩
  rw [idxV_is, hK]
  have HG := Lib.hid (show guessE (w0 :: ws) = gsK K w0 ws by rw [guess_is, HWD.out, hK])
  have HRG := Lib.hid (show R = parE (guessE (w0 :: ws)) l by rw [← HR.out]; unfold parS; rw [HLe.out, HL1.out])
  have HKi := Lib.hid (show ∀ i, K = some i → i < 16 from fun i hi => by
    rw [hi] at hK
    have h := hK
    unfold kindW at h
    rw [List.idxOf?, List.findIdx?_eq_some_iff_getElem] at h
    exact h.1)
  have HLL := Lib.hid (show L.length = ws.length + 1 by rw [HL1.out]; rfl)
  clear hK
  cases K with
  | none =>
    unfold idK
    have HRE := Lib.hid (show R = (zeroE, 4) by rw [HRG.out, HG.out]; rfl)
    clear HG HRG
    go_wp2_with (first | (refine wpList_loadC rfl _ 38 rfl (r + 3) 38 (evE X) _ rfl (by rfl) (by rfl) (by rfl) HP8.out.ev ?_) | (refine wpList_storeC rfl _ _ 38 rfl r 38 (evE zeroE) (evE zeroE).toArray evt_info (by rfl) (by rfl) HP8.out.res rfl (evt_oneP _) ?_))
    refine ret_cell2 (g := r) (e := 38) (xs := (evE zeroE).toArray.toList) rfl (by rfl) (by rfl) (blk_row HP8.out.res _) rfl (by rfl) (by rfl) rfl ?_
    rw [HRE.out]
    exact ⟨rfl, row_below HP8.out.bl hrw _⟩
  | some i =>
    have hi := HKi.out i rfl
    obtain ⟨FL, hFL⟩ : ∃ y, fldsT.getD i [] = y := ⟨_, rfl⟩
    have hFl : fldsL ((i : Int) + 1) = FL := by unfold fldsL; rw [show ((i : Int) + 1 - 1).toNat = i by omega, hFL]
    have hfl2 : FL.length ≤ 2 := by rw [← hFL]; exact flds_len hi
    obtain ⟨sf, hsf⟩ : ∃ y, sA FL = y := ⟨_, rfl⟩
    have c1 : w7.cell? ⟨fb, i * 4 + 1, none⟩ = some (.string sf) := by rw [HF8.out.cell, fm_at hi (by decide), ← hsf, ← hFL]; rfl
    have hsfz : sf.size = FL.length := by rw [← hsf]; rfl
    unfold gsK at HG
    dsimp only at HG
    rw [hFl] at HG
    unfold idK
    have HFL := Lib.hid hFL
    have HSF := Lib.hid hsf
    have hi1 : (i : Int) < 16 := by omega
    have hi0 : (0 : Int) ≤ i := by omega
    clear hFL hFl hsf
    by_cases hlen : L.length = 1 + FL.length
    · have g1 : ((L.length : Int) != 1 + (FL.length : Int)) = false := by simp; omega
      have HLN := Lib.hid hlen
      have HRX := Lib.hid (show R = parE (some (takeAll ((i : Int) + 1) ⟨(i : Int) + 1, 0, 0, 0, tv, 0, 0, zeroD⟩ FL ws)) l by rw [HRG.out, HG.out, if_neg (by have := HLL.out; omega), HTV.out])
      have hwr : IntKind.u8.wrap ((i : Int) + 1) = (i : Int) + 1 := by show (((i : Int) + 1) % 256) = _; omega
      have k0 : w7.cell? ⟨r + 3, 0, none⟩ = some (.int .u8 0) := HP8.out.ev.cell 0
      have k1 := HP8.out.ev.frozen 0
      have k2 := HP8.out.ev.lt
      obtain ⟨w8, hw8⟩ : ∃ y, w7.setCell ⟨r + 3, 0, none⟩ (.int .u8 ((i : Int) + 1)) = y := ⟨_, rfl⟩
      have HP9 := Lib.hid (show PaS l r w w8 wd ⟨(i : Int) + 1, 0, 0, 0, tv, 0, 0, zeroD⟩ by rw [← hw8]; exact HP8.out.set hrw 0 _ rfl)
      have HF9 := Lib.hid (show Blk w8 fb 91 fmL by rw [← hw8]; exact HF8.out.other (by have := HFB.out; omega) _ _)
      have S8 := Lib.hid hw8
      clear hw8 HG HRG hlen
      have hl2 : (1 : Int) ≤ L.length := by omega
      by_cases hF : FL.length = 0
      · have hL1 : L.length = 1 := by have := HLN.out; omega
        have hF1 : FL = [] := List.eq_nil_of_length_eq_zero hF
        have hw1 : ws = [] := List.eq_nil_of_length_eq_zero (by have := HLL.out; omega)
        obtain ⟨X, hX⟩ : ∃ X, takeAll ((i : Int) + 1) ⟨(i : Int) + 1, 0, 0, 0, tv, 0, 0, zeroD⟩ FL ws = X := ⟨_, rfl⟩
        have HPY := Lib.hid (show PaS l r w w8 wd X by rw [← hX, hF1, hw1]; exact HP9.out)
        have HBL := Lib.hid (show 0 ≤ X.ball.how ∧ 0 ≤ X.ball.src by rw [← hX]; exact takeAll_ball _ _ _ _ ⟨Int.le_refl 0, Int.le_refl 0⟩)
        rw [hX] at HRX
        clear hX hF1 hw1
        go_wp2_with (rw [S8.out])
        go_loopw [47] (fun iv wr => iv = .int .i64 0 ∧ wr = w8) (fun _ _ => 0)
        case atStart => exact ⟨rfl, rfl⟩
        case round =>
          obtain ⟨rfl, rfl⟩ := hrel
          go_wp2_with (refine wpList_loadC rfl _ 38 rfl (r + 3) 38 (evE X) _ rfl (by rfl) (by rfl) (by rfl) HPY.out.ev ?_)
          refine (text_p X HBL.out.1 _ (HL.out.to HPY.out.bl)).mono ?_
          rintro e' w9 ⟨rfl, hb9⟩
          have HPZ := Lib.hid (HPY.out.to hb9)
          clear hb9
          by_cases hc : chkE X = 0
          · have HT := Lib.hid (show TxtE X = (txtE X, 0) by unfold TxtE; rw [if_neg (by simpa using hc)])
            rw [HT.out]
            obtain ⟨tS, htS⟩ : ∃ y, sA (txtE X) = y := ⟨_, rfl⟩
            have htq : (tS.toList == s.toList) = decide (txtE X = l) := by rw [← htS, ← HS.out]; exact sA_eqb _ _
            by_cases ht : txtE X = l
            · have htq2 : (tS.toList == s.toList) = true := by rw [htq]; simpa using ht
              have HRE := Lib.hid (show R = (X, 0) by rw [HRX.out]; unfold parE; dsimp only; rw [if_pos ⟨hc, ht⟩])
              dsimp only
              rw [htS]
              clear htq ht hc htS HRX
              go_wp2_with (first | (refine wpList_loadC rfl _ 38 rfl (r + 3) 38 (evE X) _ rfl (by rfl) (by rfl) (by rfl) HPZ.out.ev ?_) | (refine wpList_storeC rfl _ _ 38 rfl r 38 (evE zeroE) (evE X).toArray evt_info (by rfl) (by rfl) HPZ.out.res rfl (evt_oneP _) ?_))
              refine ret_cell2 (g := r) (e := 38) (xs := (evE X).toArray.toList) rfl (by rfl) (by rfl) (blk_row HPZ.out.res _) rfl (by rfl) (by rfl) rfl ?_
              rw [HRE.out]
              exact ⟨rfl, row_below HPZ.out.bl hrw _⟩
            · have htq2 : (tS.toList == s.toList) = false := by rw [htq]; simpa using ht
              have HRE := Lib.hid (show R = (zeroE, 4) by rw [HRX.out]; unfold parE; dsimp only; rw [if_neg (fun q => ht q.2)])
              dsimp only
              rw [htS]
              clear htq ht hc htS HRX
              go_wp2_with (first | (refine wpList_loadC rfl _ 38 rfl (r + 3) 38 (evE X) _ rfl (by rfl) (by rfl) (by rfl) HPZ.out.ev ?_) | (refine wpList_storeC rfl _ _ 38 rfl r 38 (evE zeroE) (evE zeroE).toArray evt_info (by rfl) (by rfl) HPZ.out.res rfl (evt_oneP _) ?_))
              refine ret_cell2 (g := r) (e := 38) (xs := (evE zeroE).toArray.toList) rfl (by rfl) (by rfl) (blk_row HPZ.out.res _) rfl (by rfl) (by rfl) rfl ?_
              rw [HRE.out]
              exact ⟨rfl, row_below HPZ.out.bl hrw _⟩
          · obtain ⟨v, hv⟩ : ∃ v, chkE X = v := ⟨_, rfl⟩
            have HT := Lib.hid (show TxtE X = ([], v) by unfold TxtE; rw [if_pos hc, hv])
            have g1v : (v != 0) = true := by rw [← hv]; simpa using hc
            have HRE := Lib.hid (show R = (zeroE, 4) by rw [HRX.out]; unfold parE; dsimp only; rw [if_neg (fun q => hc q.1)])
            rw [HT.out]
            clear hc hv HRX
            go_wp2_with (first | (refine wpList_loadC rfl _ 38 rfl (r + 3) 38 (evE X) _ rfl (by rfl) (by rfl) (by rfl) HPZ.out.ev ?_) | (refine wpList_storeC rfl _ _ 38 rfl r 38 (evE zeroE) (evE zeroE).toArray evt_info (by rfl) (by rfl) HPZ.out.res rfl (evt_oneP _) ?_))
            refine ret_cell2 (g := r) (e := 38) (xs := (evE zeroE).toArray.toList) rfl (by rfl) (by rfl) (blk_row HPZ.out.res _) rfl (by rfl) (by rfl) rfl ?_
            rw [HRE.out]
            exact ⟨rfl, row_below HPZ.out.bl hrw _⟩
      · have hL1 : ¬ L.length = 1 := by have := HLN.out; omega
        have hLs : L.length - 1 = FL.length := by have := HLN.out; omega
        obtain ⟨z0, hz0⟩ : ∃ y, sA (wordT.getD i []) = y := ⟨_, rfl⟩
        obtain ⟨z2, hz2⟩ : ∃ y, sA (yesT.getD i []) = y := ⟨_, rfl⟩
        obtain ⟨z3, hz3⟩ : ∃ y, sA (noT.getD i []) = y := ⟨_, rfl⟩
        have HFM := Lib.hid (show fmE i = [.string z0, .string sf, .string z2, .string z3] by unfold fmE; rw [hz0, hz2, hz3, HFL.out, HSF.out])
        clear hz0 hz2 hz3
        go_wp2_with (rw [S8.out])
        clear c1 k0 k1 k2
        go_loopw [47] (PlR l r w wd tv i FL ws fb) (fun iv _ => FL.length - (intOf iv).toNat)
        case atStart => exact ⟨0, by omega, rfl, HP9.out, HF9.out⟩
        case round =>
          obtain ⟨j, hj, rfl, hpa, hfb2⟩ := hrel
          have HPA := Lib.hid hpa
          have HFA := Lib.hid hfb2
          clear hpa hfb2
          by_cases hjF : j < FL.length
          · obtain ⟨c, hcj⟩ : ∃ c, FL[j]? = some c := ⟨_, List.getElem?_eq_getElem hjF⟩
            obtain ⟨wj, hwj⟩ : ∃ x, ws[j]? = some x := ⟨_, List.getElem?_eq_getElem (by have := HLL.out; have := HLN.out; omega)⟩
            obtain ⟨hz, hsj⟩ := sA_at HSF.out hcj
            have h256 : c.toNat < 256 := c.toNat_lt
            obtain ⟨zj, hzj⟩ : ∃ y, sA wj = y := ⟨_, rfl⟩
            have r1 : wr.cell? ⟨r + 1, 1 + j, none⟩ = some (.string zj) := by
              rw [HPA.out.row.cell]
              unfold splS
              rw [HLe.out, HL1.out, Nat.add_comm 1 j]
              simp [hwj, ← hzj, sA]
            have HZJ := Lib.hid hzj
            have c0 : wr.cell? ⟨fb, i * 4, none⟩ = some (.string z0) := by rw [HFA.out.cell]; exact (fm_at (j := 0) hi (by decide)).trans (by rw [HFM.out]; rfl)
            have c1 : wr.cell? ⟨fb, i * 4 + 1, none⟩ = some (.string sf) := by rw [HFA.out.cell]; exact (fm_at (j := 1) hi (by decide)).trans (by rw [HFM.out]; rfl)
            have c2 : wr.cell? ⟨fb, i * 4 + 2, none⟩ = some (.string z2) := by rw [HFA.out.cell]; exact (fm_at (j := 2) hi (by decide)).trans (by rw [HFM.out]; rfl)
            have c3 : wr.cell? ⟨fb, i * 4 + 3, none⟩ = some (.string z3) := by rw [HFA.out.cell]; exact (fm_at (j := 3) hi (by decide)).trans (by rw [HFM.out]; rfl)
            have lfb := HFA.out.lt
            have lrb := HPA.out.row.lt
            have HNXT := Lib.hid (show takeF ((i : Int) + 1) (takeAll ((i : Int) + 1) ⟨(i : Int) + 1, 0, 0, 0, tv, 0, 0, zeroD⟩ (FL.take j) (ws.take j)) c wj = takeAll ((i : Int) + 1) ⟨(i : Int) + 1, 0, 0, 0, tv, 0, 0, zeroD⟩ (FL.take (j + 1)) (ws.take (j + 1)) by
              rw [List.take_add_one, List.take_add_one, hcj, hwj]
              refine (takeAll_snoc _ _ _ _ _ _ ?_).symm
              rw [List.length_take, List.length_take]
              have := HLL.out; have := HLN.out; omega)
            have hcall := take8_p i hi (takeAll ((i : Int) + 1) ⟨(i : Int) + 1, 0, 0, 0, tv, 0, 0, zeroD⟩ (FL.take j) (ws.take j)) c (flds_mem hi c (by rw [HFL.out]; exact List.mem_of_getElem? hcj)) wj (by have := splitC_mlen 32 l wj (by rw [HLe.out, HL1.out]; exact List.mem_cons_of_mem _ (List.mem_of_getElem? hwj)); omega) (r + 3) wr.drew (HL.out.to (HPA.out.bl.drew)) HPA.out.ev
            rw [HFM.out, hzj, HNXT.out] at hcall
            have HC := Lib.hid hcall
            clear hcall hcj hwj hzj
            go_wp2_with (fail)
            refine wp_region_still_tail 12 (by kernel_rfl) (by kernel_rfl) ?_
            simp only [List.take_succ_cons, List.take_zero, List.drop_succ_cons, List.drop_zero]
            repeat still_step
            refine wpStill_nil ?_
            go_wp2_with (fail)
            refine HC.out.mono ?_
            rintro e' w9 ⟨rfl, hbk, hkp⟩
            have hkp2 : Kp (r + 3) (.slice none 0 0) wr w9 := ⟨hkp.os, hkp.tape, hkp.output, hkp.size, hkp.block⟩
            have HN9 := Lib.hid (HPA.out.kp hrw hkp2 hbk)
            have HF9 := Lib.hid (hkp2.blk HFA.out (by have := HFB.out; omega) (by simp [Value.ownBlock]))
            clear hbk hkp hkp2
            go_wp2_with (fail)
            exact ⟨⟨j + 1, hjF, rfl, HN9.out, HF9.out⟩, by show FL.length - (j + 1) < FL.length - j; omega⟩
          · have hjn : j = FL.length := by omega
            obtain ⟨X, hX⟩ : ∃ X, takeAll ((i : Int) + 1) ⟨(i : Int) + 1, 0, 0, 0, tv, 0, 0, zeroD⟩ FL ws = X := ⟨_, rfl⟩
            have HPY := Lib.hid (show PaS l r w wr wd X by have := HPA.out; rw [hjn, List.take_length, List.take_of_length_le (by have := HLL.out; have := HLN.out; omega), hX] at this; exact this)
            have HBL := Lib.hid (show 0 ≤ X.ball.how ∧ 0 ≤ X.ball.src by rw [← hX]; exact takeAll_ball _ _ _ _ ⟨Int.le_refl 0, Int.le_refl 0⟩)
            rw [hX] at HRX
            clear hX hjn HPA
            go_wp2_with (refine wpList_loadC rfl _ 38 rfl (r + 3) 38 (evE X) _ rfl (by rfl) (by rfl) (by rfl) HPY.out.ev ?_)
            refine (text_p X HBL.out.1 _ (HL.out.to HPY.out.bl)).mono ?_
            rintro e' w9 ⟨rfl, hb9⟩
            have HPZ := Lib.hid (HPY.out.to hb9)
            clear hb9
            by_cases hc : chkE X = 0
            · have HT := Lib.hid (show TxtE X = (txtE X, 0) by unfold TxtE; rw [if_neg (by simpa using hc)])
              rw [HT.out]
              obtain ⟨tS, htS⟩ : ∃ y, sA (txtE X) = y := ⟨_, rfl⟩
              have htq : (tS.toList == s.toList) = decide (txtE X = l) := by rw [← htS, ← HS.out]; exact sA_eqb _ _
              by_cases ht : txtE X = l
              · have htq2 : (tS.toList == s.toList) = true := by rw [htq]; simpa using ht
                have HRE := Lib.hid (show R = (X, 0) by rw [HRX.out]; unfold parE; dsimp only; rw [if_pos ⟨hc, ht⟩])
                dsimp only
                rw [htS]
                clear htq ht hc htS HRX
                go_wp2_with (first | (refine wpList_loadC rfl _ 38 rfl (r + 3) 38 (evE X) _ rfl (by rfl) (by rfl) (by rfl) HPZ.out.ev ?_) | (refine wpList_storeC rfl _ _ 38 rfl r 38 (evE zeroE) (evE X).toArray evt_info (by rfl) (by rfl) HPZ.out.res rfl (evt_oneP _) ?_))
                refine ret_cell2 (g := r) (e := 38) (xs := (evE X).toArray.toList) rfl (by rfl) (by rfl) (blk_row HPZ.out.res _) rfl (by rfl) (by rfl) rfl ?_
                rw [HRE.out]
                exact ⟨rfl, row_below HPZ.out.bl hrw _⟩
              · have htq2 : (tS.toList == s.toList) = false := by rw [htq]; simpa using ht
                have HRE := Lib.hid (show R = (zeroE, 4) by rw [HRX.out]; unfold parE; dsimp only; rw [if_neg (fun q => ht q.2)])
                dsimp only
                rw [htS]
                clear htq ht hc htS HRX
                go_wp2_with (first | (refine wpList_loadC rfl _ 38 rfl (r + 3) 38 (evE X) _ rfl (by rfl) (by rfl) (by rfl) HPZ.out.ev ?_) | (refine wpList_storeC rfl _ _ 38 rfl r 38 (evE zeroE) (evE zeroE).toArray evt_info (by rfl) (by rfl) HPZ.out.res rfl (evt_oneP _) ?_))
                refine ret_cell2 (g := r) (e := 38) (xs := (evE zeroE).toArray.toList) rfl (by rfl) (by rfl) (blk_row HPZ.out.res _) rfl (by rfl) (by rfl) rfl ?_
                rw [HRE.out]
                exact ⟨rfl, row_below HPZ.out.bl hrw _⟩
            · obtain ⟨v, hv⟩ : ∃ v, chkE X = v := ⟨_, rfl⟩
              have HT := Lib.hid (show TxtE X = ([], v) by unfold TxtE; rw [if_pos hc, hv])
              have g1v : (v != 0) = true := by rw [← hv]; simpa using hc
              have HRE := Lib.hid (show R = (zeroE, 4) by rw [HRX.out]; unfold parE; dsimp only; rw [if_neg (fun q => hc q.1)])
              rw [HT.out]
              clear hc hv HRX
              go_wp2_with (first | (refine wpList_loadC rfl _ 38 rfl (r + 3) 38 (evE X) _ rfl (by rfl) (by rfl) (by rfl) HPZ.out.ev ?_) | (refine wpList_storeC rfl _ _ 38 rfl r 38 (evE zeroE) (evE zeroE).toArray evt_info (by rfl) (by rfl) HPZ.out.res rfl (evt_oneP _) ?_))
              refine ret_cell2 (g := r) (e := 38) (xs := (evE zeroE).toArray.toList) rfl (by rfl) (by rfl) (blk_row HPZ.out.res _) rfl (by rfl) (by rfl) rfl ?_
              rw [HRE.out]
              exact ⟨rfl, row_below HPZ.out.bl hrw _⟩
    · have g1 : ((L.length : Int) != 1 + (FL.length : Int)) = true := by simp; omega
      have HRE := Lib.hid (show R = (zeroE, 4) by rw [HRG.out, HG.out, if_pos (by have := HLL.out; omega)]; rfl)
      clear HG HRG hlen
      go_wp2_with (first | (refine wpList_loadC rfl _ 38 rfl (r + 3) 38 (evE X) _ rfl (by rfl) (by rfl) (by rfl) HP8.out.ev ?_) | (refine wpList_storeC rfl _ _ 38 rfl r 38 (evE zeroE) (evE zeroE).toArray evt_info (by rfl) (by rfl) HP8.out.res rfl (evt_oneP _) ?_))
      refine ret_cell2 (g := r) (e := 38) (xs := (evE zeroE).toArray.toList) rfl (by rfl) (by rfl) (blk_row HP8.out.res _) rfl (by rfl) (by rfl) rfl ?_
      rw [HRE.out]
      exact ⟨rfl, row_below HP8.out.bl hrw _⟩
end

section
/-! Chapter 58: the text of a file, and how it is read. Plain. -/
open Go.RowKit
theorem par_txtA {e : Ev} (hc : chkE e = 0) (hs : 0 ≤ e.ball.src) (hh : 0 ≤ e.ball.how) : parS (txtE e) = (e, 0) := by
  have hok := okE_of hc
  unfold parS
  rw [split_txt hok hh, (guess_words hok hs hh).1]
  unfold parE
  dsimp only
  rw [if_pos ⟨hc, rfl⟩]
theorem par_okA {l : List UInt8} {X : Ev} {er : Int} (h : parS l = (X, er)) : (er = 0 → chkE X = 0 ∧ txtE X = l ∧ 0 ≤ X.ball.how ∧ 0 ≤ X.ball.src) ∧ (er ≠ 0 → X = zeroE) := by
  unfold parS parE at h
  split at h
  · injection h with h1 h2
    exact ⟨fun e => (by rw [← h2] at e; exact absurd e (by decide)), fun _ => h1.symm⟩
  · next g hg =>
    split at h
    · next hc =>
      injection h with h1 h2
      subst h1
      refine ⟨fun _ => ⟨hc.1, hc.2, ?_⟩, fun e => absurd h2.symm e⟩
      cases hsp : splitC 32 l with
      | nil => exact absurd hsp (splitC_ne 32 l)
      | cons w0 ws =>
        rw [hsp, guess_is] at hg
        unfold gsK at hg
        split at hg
        · cases hg
        · split at hg
          · cases hg
          · injection hg with hg
            rw [← hg]
            exact takeAll_ball _ _ _ _ ⟨Int.le_refl 0, Int.le_refl 0⟩
    · injection h with h1 h2
      exact ⟨fun e => (by rw [← h2] at e; exact absurd e (by decide)), fun _ => h1.symm⟩
/-- A row without its end. -/
def rowA (x : Ent) : List UInt8 := dcB x.id ++ 32 :: (x.sc.data.toList ++ 32 :: txtE x.ev)
def txtA (f : List Ent) : List UInt8 := f.flatMap fun x => rowA x ++ [10]
def TxtA (f : List Ent) : List UInt8 × Int := if chkA f ≠ 0 then ([], chkA f) else if 262144 < (txtA f).length then ([], 9) else (txtA f, 0)
theorem txtA_rows (f : List Ent) : txtA f = (f.map rowA).flatMap fun r => r ++ [10] := by
  unfold txtA
  induction f with
  | nil => rfl
  | cons x r ih => rw [List.flatMap_cons, List.map_cons, List.flatMap_cons, ih]
theorem txtA_next {f : List Ent} {k : Nat} {x : Ent} (h : f[k]? = some x) : txtA (f.take (k + 1)) = txtA (f.take k) ++ (rowA x ++ [10]) := by
  unfold txtA
  rw [List.take_add_one, h, List.flatMap_append]
  simp
def OkA (x : Ent) : Prop := (1 ≤ x.id ∧ x.id ≤ 1099511627776) ∧ nameB x.sc = true ∧ chkE x.ev = 0
theorem okA_of {f : List Ent} (h : chkA f = 0) : f.length ≤ 4000 ∧ ∀ x ∈ f, OkA x := by
  unfold chkA at h
  split at h
  · cases h
  · refine ⟨by omega, fun x hx => ?_⟩
    obtain ⟨h1, h2, h3, h4⟩ := (aScan_ok h).1 x hx
    exact ⟨⟨h1, h2⟩, h3, h4⟩
theorem numP_dcA {n lo hi : Int} (h0 : 0 ≤ n) (h1 : lo ≤ n) (h2 : n ≤ hi) : numP (dcB n) lo hi = (n, 0) := by
  obtain ⟨u, rfl⟩ : ∃ u : Nat, n = u := ⟨n.toNat, by omega⟩
  unfold dcB
  rw [Int.toNat_natCast]
  exact numP_dec h1 h2
theorem tok_dcA (n : Int) : Tok (dcB n) := tok_dec _
theorem txt_ten {e : Ev} (hc : chkE e = 0) (hh : 0 ≤ e.ball.how) : (10 : UInt8) ∉ txtE e := join_ten fun w hw => (words_tok (okE_of hc) hh w hw).2
theorem rowA_ten {x : Ent} (h : OkA x) (hh : 0 ≤ x.ev.ball.how) : (10 : UInt8) ∉ rowA x :=
  tok_app (tok_dcA _).2 (tok_app (tok_name h.2.1).2 (txt_ten h.2.2 hh))
def baA (l : List UInt8) : ByteArray := ⟨l.toArray⟩
/-- The entry of a row. -/
def fldA (r : List UInt8) : Option Ent := match splitC 32 r with
  | a :: b :: _ :: _ => if (numP a 1 1099511627776).2 = 0 ∧ (parS (r.drop (a.length + b.length + 2))).2 = 0 then some ⟨(numP a 1 1099511627776).1, (parS (r.drop (a.length + b.length + 2))).1, baA b⟩ else none
  | _ => none
theorem fldA_row {x : Ent} (h : OkA x) (hs : 0 ≤ x.ev.ball.src) (hh : 0 ≤ x.ev.ball.how) : fldA (rowA x) = some x := by
  obtain ⟨⟨h1, h2⟩, h3, h4⟩ := h
  unfold fldA
  have hsp : splitC 32 (rowA x) = dcB x.id :: x.sc.data.toList :: splitC 32 (txtE x.ev) := by
    unfold rowA
    rw [splitC_app (tok_dcA _).1, splitC_app (tok_name h3).1]
  rw [hsp]
  cases hq : splitC 32 (txtE x.ev) with
  | nil => exact absurd hq (splitC_ne 32 _)
  | cons w ws =>
    dsimp only
    have hd : (rowA x).drop ((dcB x.id).length + x.sc.data.toList.length + 2) = txtE x.ev := by
      unfold rowA
      rw [show dcB x.id ++ 32 :: (x.sc.data.toList ++ 32 :: txtE x.ev) = (dcB x.id ++ 32 :: (x.sc.data.toList ++ [32])) ++ txtE x.ev by simp]
      exact List.drop_left' (by simp; omega)
    rw [hd, par_txtA h4 hs hh, numP_dcA (by omega) h1 h2, if_pos ⟨rfl, rfl⟩]
    simp [baA]
/-- The entries of rows. -/
def rowsA : List (List UInt8) → Option (List Ent)
  | [] => some []
  | r :: t => match fldA r, rowsA t with
    | some z, some l => some (z :: l)
    | _, _ => none
theorem rowsA_append : ∀ (a b : List (List UInt8)), rowsA (a ++ b) = match rowsA a, rowsA b with
    | some x, some y => some (x ++ y)
    | _, _ => none
  | [], b => by simp [rowsA]; cases rowsA b <;> rfl
  | r :: t, b => by
    rw [List.cons_append, rowsA, rowsA, rowsA_append t b]
    cases fldA r <;> cases rowsA t <;> cases rowsA b <;> rfl
theorem rowsA_one (r : List UInt8) : rowsA [r] = (fldA r).map fun z => [z] := by
  rw [rowsA, rowsA]
  cases fldA r <;> rfl
theorem rowsA_next {R : List (List UInt8)} {k : Nat} {r : List UInt8} {l : List Ent} {z : Ent} (hr : R[k]? = some r) (h : rowsA (R.take k) = some l) (hz : fldA r = some z) : rowsA (R.take (k + 1)) = some (l ++ [z]) := by
  rw [List.take_add_one, hr, rowsA_append, h]
  show (match some l, rowsA [r] with | some x, some y => some (x ++ y) | _, _ => none) = _
  rw [rowsA_one, hz]; rfl
theorem rowsA_bad {R : List (List UInt8)} {k : Nat} {r : List UInt8} (hr : R[k]? = some r) (hz : fldA r = none) : rowsA R = none := by
  obtain ⟨hk, rfl⟩ := List.getElem?_eq_some_iff.1 hr
  have e : R = R.take k ++ (R[k] :: R.drop (k + 1)) := by rw [← List.drop_eq_getElem_cons hk, List.take_append_drop]
  rw [e, rowsA_append]
  have h2 : rowsA (R[k] :: R.drop (k + 1)) = none := by
    rw [rowsA, hz]
  rw [h2]
  cases rowsA (R.take k) <;> rfl
theorem rowsA_rows : ∀ {l : List Ent}, (∀ z ∈ l, OkA z ∧ 0 ≤ z.ev.ball.src ∧ 0 ≤ z.ev.ball.how) → rowsA (l.map rowA) = some l
  | [], _ => rfl
  | z :: r, h => by
    obtain ⟨h1, h2, h3⟩ := h z List.mem_cons_self
    rw [List.map_cons, rowsA, fldA_row h1 h2 h3, rowsA_rows (l := r) (fun x hx => h x (List.mem_cons_of_mem _ hx))]
theorem splitA_small (c : UInt8) : ∀ (l : List UInt8), (∀ x ∈ splitC c l, x.length ≤ l.length) ∧ (splitC c l).length ≤ l.length + 1
  | [] => by simp [splitC]
  | x :: r => by
    obtain ⟨h1, h2⟩ := splitA_small c r
    by_cases hx : x = c
    · rw [splitC, if_pos hx]
      refine ⟨fun y hy => ?_, by simp; omega⟩
      rcases List.mem_cons.1 hy with rfl | hy
      · simp
      · have := h1 y hy; simp; omega
    · rw [splitC, if_neg hx]
      cases hs : splitC c r with
      | nil => exact absurd hs (splitC_ne c r)
      | cons a b =>
        rw [hs] at h1 h2
        simp only []
        refine ⟨fun y hy => ?_, by simp at h2 ⊢; omega⟩
        rcases List.mem_cons.1 hy with rfl | hy
        · have := h1 a List.mem_cons_self; simp; omega
        · have := h1 y (List.mem_cons_of_mem _ hy); simp; omega
theorem fldA_ok {r : List UInt8} {z : Ent} (h : fldA r = some z) : z.sc.size ≤ r.length ∧ chkE z.ev = 0 ∧ 0 ≤ z.ev.ball.how ∧ 0 ≤ z.ev.ball.src := by
  unfold fldA at h
  split at h
  · next a b c t hs =>
    split at h
    · next hc =>
      injection h with h
      subst h
      have h1 := (splitA_small 32 r).1 b (by rw [hs]; simp)
      obtain ⟨k1, k2, k3, k4⟩ := (par_okA (show parS (r.drop (a.length + b.length + 2)) = (_, _) from rfl)).1 hc.2
      refine ⟨?_, k1, k3, k4⟩
      have h4 : (baA b).size = b.length := by show b.toArray.size = _; simp
      show (baA b).size ≤ _
      omega
    · cases h
  · cases h
theorem rowsA_size {n : Nat} : ∀ {R : List (List UInt8)} {l : List Ent}, rowsA R = some l → (∀ r ∈ R, r.length ≤ n) → (∀ z ∈ l, z.sc.size ≤ n ∧ 0 ≤ z.ev.ball.how ∧ 0 ≤ z.ev.ball.src) ∧ l.length = R.length
  | [], l, h, _ => by
    rw [rowsA] at h
    injection h with h
    subst h
    simp
  | r :: t, l, h, hn => by
    rw [rowsA] at h
    cases hz : fldA r with
    | none => rw [hz] at h; cases h
    | some z =>
      cases ht : rowsA t with
      | none => rw [hz, ht] at h; cases h
      | some m =>
        rw [hz, ht] at h
        injection h with h
        subst h
        obtain ⟨i1, i2⟩ := rowsA_size (n := n) ht (fun x hx => hn x (List.mem_cons_of_mem _ hx))
        refine ⟨fun y hy => ?_, by simp [i2]⟩
        rcases List.mem_cons.1 hy with rfl | hy
        · obtain ⟨k1, _, k3, k4⟩ := fldA_ok hz
          exact ⟨Nat.le_trans k1 (hn r List.mem_cons_self), k3, k4⟩
        · exact i1 y hy
/-- What Parse answers, by the rows. -/
def ParA (R : List (List UInt8)) (s : List UInt8) : List Ent × Int := match rowsA R with
  | none => ([], 4)
  | some l => if (TxtA l).2 = 0 ∧ (TxtA l).1 = s then (l, 0) else ([], 4)
theorem TxtA_ok {l : List Ent} (h : (TxtA l).2 = 0) : chkA l = 0 ∧ TxtA l = (txtA l, 0) := by
  unfold TxtA at h ⊢
  split at h
  · next h1 => exact absurd h h1
  · next h1 =>
    split at h
    · cases h
    · next h2 => exact ⟨by simpa using h1, by rw [if_neg h1, if_neg h2]⟩
theorem parA_back {l : List Ent} (h : (TxtA l).2 = 0) (hu : ∀ z ∈ l, 0 ≤ z.ev.ball.src ∧ 0 ≤ z.ev.ball.how) : ParA (rowsR (splitC 10 (txtA l))) (txtA l) = (l, 0) := by
  obtain ⟨hc, hT⟩ := TxtA_ok h
  obtain ⟨_, hok⟩ := okA_of hc
  rw [txtA_rows, rows_rows (fun r hr => by obtain ⟨z, hz, rfl⟩ := List.mem_map.1 hr; exact rowA_ten (hok z hz) (hu z hz).2), ← txtA_rows]
  unfold ParA
  rw [rowsA_rows fun z hz => ⟨hok z hz, (hu z hz).1, (hu z hz).2⟩]
  simp only []
  rw [hT, if_pos ⟨rfl, rfl⟩]
theorem parA_cases (R : List (List UInt8)) (s : List UInt8) : ParA R s = ([], 4) ∨ ∃ l, ParA R s = (l, 0) ∧ TxtA l = (s, 0) ∧ txtA l = s ∧ rowsA R = some l := by
  unfold ParA
  cases rowsA R with
  | none => exact .inl rfl
  | some l =>
    simp only []
    split
    · rename_i h
      obtain ⟨_, hT⟩ := TxtA_ok h.1
      have h2 : txtA l = s := by have h3 := h.2; rw [hT] at h3; exact h3
      exact .inr ⟨l, rfl, by rw [hT, h2], h2, rfl⟩
    · exact .inl rfl
theorem parA_same (s : List UInt8) : ParA (rowsR (splitC 10 s)) s = ParA (splitC 10 s).dropLast s := by
  by_cases h : s = [] ∨ s.getLast? = some 10
  · rw [rowsR_end (splitC_last h)]
  · have bad : ∀ R, ParA R s = ([], 4) := fun R => by
      rcases parA_cases R s with h1 | ⟨l, _, _, h2, _⟩
      · exact h1
      · exfalso
        rw [txtA_rows] at h2
        exact h (by rw [← h2]; exact flat_last _)
    rw [bad, bad]
/-! Two cuts at a blank -/
theorem index_blank : ∀ l : List UInt8, Lib.index l [32] = match atB 32 l with | some i => (i : Int) | none => -1
  | [] => by simp [Lib.index, atB]
  | c :: r => by
    by_cases h : c = 32
    · subst h; simp [Lib.index, atB, List.isPrefixOf]
    · have h' : ¬ (32 : UInt8) = c := fun e => h e.symm
      have e1 : Lib.index (c :: r) [32] = if Lib.index r [32] == -1 then -1 else Lib.index r [32] + 1 := by
        rw [Lib.index, if_neg (by simp [List.isPrefixOf, h'])]
      have e2 : atB 32 (c :: r) = (atB 32 r).map (· + 1) := by rw [atB, if_neg h]
      rw [e1, e2, index_blank r]
      cases atB 32 r with
      | none => rfl
      | some i =>
        have : ((i : Int) == -1) = false := by rw [beq_eq_false_iff_ne]; omega
        simp [this]
theorem cut_blank (l : List UInt8) : Lib.cut l [32] = match atB 32 l with | some i => (l.take i, l.drop (i + 1), true) | none => (l, [], false) := by
  unfold Lib.cut
  rw [index_blank]
  cases atB 32 l with
  | none => rfl
  | some i => simp
theorem fldA_cut (r : List UInt8) : fldA r = if (Lib.cut r [32]).2.2 = true ∧ (Lib.cut (Lib.cut r [32]).2.1 [32]).2.2 = true ∧ (numP (Lib.cut r [32]).1 1 1099511627776).2 = 0 ∧ (parS (Lib.cut (Lib.cut r [32]).2.1 [32]).2.1).2 = 0
    then some ⟨(numP (Lib.cut r [32]).1 1 1099511627776).1, (parS (Lib.cut (Lib.cut r [32]).2.1 [32]).2.1).1, baA (Lib.cut (Lib.cut r [32]).2.1 [32]).1⟩ else none := by
  rw [cut_blank r]
  cases h1 : atB 32 r with
  | none =>
    dsimp only
    unfold fldA
    rw [splitC_miss h1, if_neg (fun h => by cases h.1)]
  | some i =>
    dsimp only
    rw [cut_blank (r.drop (i + 1))]
    have hi := atB_lt h1
    cases h2 : atB 32 (r.drop (i + 1)) with
    | none =>
      dsimp only
      unfold fldA
      rw [splitC_hit h1, splitC_miss h2, if_neg (fun h => by cases h.2.1)]
    | some j =>
      dsimp only
      have hj := atB_lt h2
      unfold fldA
      rw [splitC_hit h1, splitC_hit h2]
      cases h3 : splitC 32 ((r.drop (i + 1)).drop (j + 1)) with
      | nil => exact absurd h3 (splitC_ne 32 _)
      | cons w ws =>
        dsimp only
        have hd : r.drop ((r.take i).length + ((r.drop (i + 1)).take j).length + 2) = (r.drop (i + 1)).drop (j + 1) := by
          rw [List.drop_drop, List.length_take, List.length_take]
          congr 1
          omega
        rw [hd]
        simp only [true_and]
theorem cut_len (l : List UInt8) : (Lib.cut l [32]).1.length ≤ l.length ∧ (Lib.cut l [32]).2.1.length ≤ l.length := by
  rw [cut_blank]
  cases atB 32 l with
  | none => exact ⟨Nat.le_refl _, by simp⟩
  | some i => exact ⟨by simp; omega, by simp⟩
end
end Go.Proofs.YtdbiihfoafoljaaGreatDoor
