/-
  Chapter 8: the word of a line is looked up, by the program.
-/
import Derived.Test.YtgkjcapoddjkhaaGreatDoorEvTk
set_option linter.unusedSimpArgs false
set_option linter.unusedVariables false
namespace Go.Proofs.YtgkjcapoddjkhaaGreatDoor
open Go.RowKit
set_option maxRecDepth 100000
set_option maxHeartbeats 4000000
attribute [-simp] Tryz.isAgg56 Tryz.sizeOf56
theorem sA_eqb (a b : List UInt8) : ((sA a).toList == (sA b).toList) = decide (a = b) := by
  rw [sA_to, sA_to, Bool.eq_iff_iff]
  simp
theorem parse1_p (n : Nat) (wl : List UInt8) (p : Nat) (w : World) (hp : w.cell? ⟨p, 0, none⟩ = some (.string (sA wl))) : Calls Tryz.prog 43 #[.agg (fmE n).toArray, .pointer (some ⟨p, 0, none⟩)] w fun e w' => e = .returned (.bool (decide (wordT.getD n [] = wl))) ∧ Below w.heap.size w w' := by
  obtain ⟨w1, hw1⟩ : ∃ y, w.alloc (.cells (fmE n).toArray 56) = y := ⟨_, rfl⟩
  have hb1 : Below w.heap.size w w1 := by rw [← hw1]; exact cur_new _ _
  have hF1 : Blk w1 w.heap.size 56 (fmE n) := by rw [← hw1]; exact Blk.new w _ _
  have hpl := Lib.lt_of_cell hp
  have d0 : w1.cell? ⟨w.heap.size, 0, none⟩ = some (.string (sA (wordT.getD n []))) := hF1.cell 0
  have d1 : w1.cell? ⟨p, 0, none⟩ = some (.string (sA wl)) := (hb1.cell (p := ⟨p, 0, none⟩) hpl).trans hp
  have he := sA_eqb (wordT.getD n []) wl
  obtain ⟨v, hv⟩ : ∃ y, decide (wordT.getD n [] = wl) = y := ⟨_, rfl⟩
  rw [hv] at he ⊢
  generalize sA (wordT.getD n []) = sa at *
  generalize sA wl = sb at *
  have HW1 := Lib.hid hw1
  have HB1 := Lib.hid hb1
  clear hw1 hb1 hF1 hv hp
  go_enter Tryz.func43, Tryz.ntmps43
  go_wp2_with (rw [HW1.out])
  go_ret
  exact ⟨rfl, HB1.out⟩
theorem idx_none {l : List (List UInt8)} {x : List UInt8} (h : ∀ (i : Nat) (y : List UInt8), l[i]? = some y → y ≠ x) : l.idxOf? x = none := by
  rw [List.idxOf?, List.findIdx?_eq_none_iff]
  intro y hy
  obtain ⟨i, hi⟩ := List.getElem?_of_mem hy
  simpa using h i y hi
theorem idx_some {l : List (List UInt8)} {x : List UInt8} {k : Nat} (h : ∀ (i : Nat) (y : List UInt8), i < k → l[i]? = some y → y ≠ x) (hk : l[k]? = some x) : l.idxOf? x = some k := by
  rw [List.idxOf?, List.findIdx?_eq_some_iff_getElem]
  obtain ⟨hlt, he⟩ := List.getElem?_eq_some_iff.1 hk
  refine ⟨hlt, by simp [he], fun j hj => ?_⟩
  have := h j l[j] hj (List.getElem?_eq_getElem _)
  simpa using this
theorem wordT_at {n : Nat} (hn : n < 16) : wordT[n]? = some (wordT.getD n []) := by
  have h : n < wordT.length := hn
  simp [List.getD, List.getElem?_eq_getElem h]
def idxV (wl : List UInt8) : Int := match kindW wl with
  | none => -1
  | some i => i
def IdR (wl : List UInt8) (w : World) (iv : Value) (wr : World) : Prop := ∃ k : Nat, k ≤ 16 ∧ iv = .int .i64 k ∧ (∀ i y, i < k → wordT[i]? = some y → y ≠ wl) ∧ Below w.heap.size w wr
theorem index_p (fb p : Nat) (wl : List UInt8) (CL : Value) (hCL : CL = .func (.func 43) #[] #[.pointer (some ⟨p, 0, none⟩)]) (w : World) (hb : Blk w fb 56 fmL) (hp : w.cell? ⟨p, 0, none⟩ = some (.string (sA wl))) :
    Calls Tryz.prog 42 #[.slice (some ⟨fb, 0, none⟩) 16 16, CL] w fun e w' => e = .returned (.int .i64 (idxV wl)) ∧ Below w.heap.size w w' := by
  subst hCL
  obtain ⟨R, hR⟩ : ∃ R, idxV wl = R := ⟨_, rfl⟩
  rw [hR]
  have HR := Lib.hid hR
  have HF := Lib.hid hb
  have HP := Lib.hid hp
  clear hR hb hp
  go_enter Tryz.func42, Tryz.ntmps42
  go_wp2_with (fail)
  go_loopw [8] (IdR wl w) (fun i _ => 16 - (intOf i).toNat)
  case atStart => exact ⟨0, by omega, rfl, fun i y h => by omega, Below.refl _ _⟩
  case round =>
    obtain ⟨k, hk, rfl, hno, hb⟩ := hrel
    have HNO := Lib.hid hno
    have HB := Lib.hid hb
    have hF := HF.out.to hb
    have hP := (hb.cell (p := ⟨p, 0, none⟩) (Lib.lt_of_cell HP.out)).trans HP.out
    have HF2 := Lib.hid hF
    have HP2 := Lib.hid hP
    clear hno hb hF hP
    by_cases hk16 : k < 16
    · obtain ⟨N, hN⟩ : ∃ N : Nat, N = 4 := ⟨_, rfl⟩
      have hA : ∀ w, Sem.run Tryz.prog (isAgg 56) w = .ok true w := fun w => Tryz.isAgg56 w
      have hZ : ∀ w, Sem.run Tryz.prog (sizeOf 56) w = .ok N w := fun w => by rw [hN]; exact Tryz.sizeOf56 w
      have hl1 := form_load HF2.out (fun (j : Nat) (v : Value) (hv : (fmE k)[j]? = some v) => (fm_at hk16 (by have := (List.getElem?_eq_some_iff.1 hv).1; exact this)).trans hv) rfl (show (fmE k).length = N by rw [hN]; rfl)
      clear hN
      go_wp2_with (fail)
      refine (parse1_p k wl p _ HP2.out).mono ?_
      rintro e' w2 ⟨rfl, hb2⟩
      have HB2 := Lib.hid (cur_step1 HB.out hb2)
      clear hb2
      by_cases he : wordT.getD k [] = wl
      · have hd : decide (wordT.getD k [] = wl) = true := by simpa using he
        rw [hd]
        have HRR := Lib.hid (show R = (k : Int) by rw [← HR.out]; unfold idxV kindW; rw [idx_some HNO.out (by rw [wordT_at hk16, he])])
        clear he hd
        go_wp2_with (fail)
        go_ret
        rw [HRR.out]
        exact ⟨rfl, HB2.out⟩
      · have hd : decide (wordT.getD k [] = wl) = false := by simpa using he
        rw [hd]
        have HN2 := Lib.hid (show ∀ i y, i < k + 1 → wordT[i]? = some y → y ≠ wl from fun i y hi hy => by
          rcases (by omega : i < k ∨ i = k) with h | rfl
          · exact HNO.out i y h hy
          · rw [wordT_at hk16] at hy; injection hy with hy; rw [← hy]; exact he)
        clear he hd
        go_wp2_with (fail)
        exact ⟨⟨k + 1, by omega, rfl, HN2.out, HB2.out⟩, by show 16 - (k + 1) < 16 - k; omega⟩
    · have hk17 : k = 16 := by omega
      subst hk17
      have HRR := Lib.hid (show R = -1 by rw [← HR.out]; unfold idxV kindW; rw [idx_none (fun i y h => HNO.out i y (by have := (List.getElem?_eq_some_iff.1 h).1; exact this) h)])
      go_wp2_with (fail)
      go_ret
      rw [HRR.out]
      exact ⟨rfl, HB.out⟩
end Go.Proofs.YtgkjcapoddjkhaaGreatDoor
