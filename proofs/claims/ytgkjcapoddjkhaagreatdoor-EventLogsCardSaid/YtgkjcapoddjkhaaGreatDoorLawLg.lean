/-
  Texts of one chapter, put together (a claim holds at most sixty files).
-/
import Derived.Test.YtgkjcapoddjkhaaGreatDoorPar7R
import Derived.Test.YtgkjcapoddjkhaaGreatDoorNumRE
import Derived.Test.YtgkjcapoddjkhaaGreatDoorPlog
import Derived.Deep.DeepCutAuto
import Derived.Deep.CutBlock
import Derived.Test.YtgkjcapoddjkhaaGreatDoorTLogR
import Derived.Test.YtgkjcapoddjkhaaGreatDoorSpR3
import Derived.Test.YtgkjcapoddjkhaaGreatDoorLawLb
set_option linter.unusedSimpArgs false
set_option linter.unusedVariables false
namespace Go.Proofs.YtgkjcapoddjkhaaGreatDoor
section
/-! Chapter 8: the reference's reading of a line's fields. -/
open Go.RowKit
set_option maxRecDepth 100000
set_option maxHeartbeats 8000000
theorem word8_r (ws : List (List UInt8)) (A : Option Addr) (c i : Nat) (w : World) (hl : ws.length ≤ 10000000) (hi : i ≤ 10) (hr : Rd stE 1 w w.heap.size A ws) : Calls Tryz.prog 71 #[.slice A ws.length c, .int .i64 i] w fun e w' => e = .returned (.string (sA (wordF ws i))) ∧ w = w' := by
  by_cases h : i < ws.length
  · have g1 : decide ((ws.length : Int) ≤ i) = false := by simp; omega
    obtain ⟨x, hx⟩ : ∃ x, ws[i]? = some x := ⟨_, List.getElem?_eq_getElem h⟩
    obtain ⟨b, off, rfl, hb, hc⟩ := hr i x hx
    have d0 : w.cell? ⟨b, off + i, none⟩ = some (.string (sA x)) := by simpa using hc 0 _ rfl
    have HX := Lib.hid (show wordF ws i = x by unfold wordF; rw [List.getD_eq_getElem?_getD, hx]; rfl)
    clear hx hc hr
    go_enter Tryz.func71, Tryz.ntmps71
    go_wp2_with (fail)
    go_ret
    rw [HX.out]
    exact ⟨rfl, rfl⟩
  · have g1 : decide ((ws.length : Int) ≤ i) = true := by simp; omega
    have HX := Lib.hid (show sA (wordF ws i) = ⟨#[]⟩ by unfold wordF; rw [List.getD_eq_getElem?_getD, List.getElem?_eq_none (by omega)]; rfl)
    clear hr
    go_enter Tryz.func71, Tryz.ntmps71
    go_wp2_with (fail)
    go_ret
    rw [HX.out]
    exact ⟨rfl, rfl⟩
theorem number8_r (ws : List (List UInt8)) (A : Option Addr) (c i : Nat) (w : World) (hl : ws.length ≤ 10000000) (hi : i ≤ 10) (hz : ∀ x ∈ ws, x.length ≤ 1000000) (hr : Rd stE 1 w w.heap.size A ws) : Calls Tryz.prog 72 #[.slice A ws.length c, .int .i64 i] w fun e w' => e = .returned (.int .i64 (numF ws i)) ∧ Below w.heap.size w w' := by
  by_cases h : i < ws.length
  · have g1 : decide ((ws.length : Int) ≤ i) = false := by simp; omega
    obtain ⟨x, hx⟩ : ∃ x, ws[i]? = some x := ⟨_, List.getElem?_eq_getElem h⟩
    obtain ⟨b, off, rfl, hb, hc⟩ := hr i x hx
    have d0 : w.cell? ⟨b, off + i, none⟩ = some (.string (sA x)) := by simpa using hc 0 _ rfl
    have HXL := Lib.hid (hz x (List.mem_of_getElem? hx))
    obtain ⟨P, hP⟩ : ∃ P, numP x 0 1000000 = P := ⟨_, rfl⟩
    have HX := Lib.hid (show numF ws i = if P.2 = 0 then P.1 else -1 by unfold numF; rw [hx]; dsimp only; rw [hP])
    have HPP := Lib.hid hP
    clear hx hc hr hz hP
    obtain ⟨v, er⟩ := P
    go_enter Tryz.func72, Tryz.ntmps72
    go_wp2_with (fail)
    have hcall := number_r (sA x) (by rw [sA_size]; have := HXL.out; omega) 0 1000000 (by decide) (by decide) w
    rw [sA_data, HPP.out] at hcall
    refine hcall.mono ?_
    clear hcall
    rintro e w1 ⟨rfl, hb1⟩
    dsimp only
    have HB1 := Lib.hid hb1
    clear hb1
    by_cases he : er = 0
    · subst he
      have HX2 := Lib.hid (show numF ws i = v by rw [HX.out]; rfl)
      go_wp2_with (fail)
      go_ret
      rw [HX2.out]
      exact ⟨rfl, HB1.out⟩
    · have g2 : (er != 0) = true := by simpa using he
      have HX2 := Lib.hid (show numF ws i = -1 by rw [HX.out, if_neg he])
      clear he
      go_wp2_with (fail)
      go_ret
      rw [HX2.out]
      exact ⟨rfl, HB1.out⟩
  · have g1 : decide ((ws.length : Int) ≤ i) = true := by simp; omega
    have HX := Lib.hid (show numF ws i = -1 by unfold numF; rw [List.getElem?_eq_none (by omega)])
    clear hr
    go_enter Tryz.func72, Tryz.ntmps72
    go_wp2_with (fail)
    go_ret
    rw [HX.out]
    exact ⟨rfl, Below.refl _ _⟩
/-- The two events of the call's own. -/
structure GSt (b h : Nat) (w wr : World) (x : Ev) : Prop where
  ev : Blk wr b 29 (evE x)
  zr : Blk wr h 29 (evE zeroE)
  bl : Below w.heap.size w wr
theorem GSt.to {b h : Nat} {w wr w1 : World} {x : Ev} (H : GSt b h w wr x) (hb : Below wr.heap.size wr w1) : GSt b h w w1 x := ⟨H.ev.to hb, H.zr.to hb, cur_step1 H.bl hb⟩
theorem GSt.row {b h : Nat} {w wr : World} {x : Ev} (H : GSt b h w wr x) (hb : w.heap.size ≤ b) (hne : h ≠ b) (y : Ev) : GSt b h w (wr.setRow b (evE y).toArray) y :=
  ⟨by simpa using blk_row H.ev (evE y).toArray, Blk.row_other H.zr hne _, row_below H.bl hb _⟩
theorem GSt.drew {b h : Nat} {w wr : World} {x : Ev} (H : GSt b h w wr x) : GSt b h w wr.drew x := H.to ((Below.refl wr.heap.size wr).drew)
theorem str_no {l m : List UInt8} (h : l ≠ m) : ((sA l).toList == m) = false := by rw [sA_to]; simpa using h
theorem str_yes {l m : List UInt8} (h : l = m) : ((sA l).toList == m) = true := by rw [sA_to]; simpa using h
theorem str_dec (l m : List UInt8) : ((sA l).toList == m) = decide (l = m) := by
  rw [sA_to]
  by_cases h : l = m <;> simp [h]
theorem guessG (f : List (List UInt8)) : guessF f = if wordF f 0 = [84, 79, 83, 83] then ⟨1, numF f 1, 0, 0, decide (wordF f 2 = [66, 65, 84]), 0, 0, zeroD⟩ else if wordF f 0 = [79, 80, 69, 78] then ⟨2, 0, numF f 1, numF f 2, false, 0, 0, zeroD⟩ else if wordF f 0 = [66, 79, 87, 76] then ⟨3, 0, numF f 1, 0, false, 0, 0, zeroD⟩ else if wordF f 0 = [66, 65, 76, 76] then ⟨4, 0, 0, 0, false, 0, 0, (parD (guessR (wordF f 1)) (wordF f 1)).1⟩ else if wordF f 0 = [69, 78, 84, 69, 82] ∨ wordF f 0 = [84, 73, 77, 69, 79, 85, 84] then ⟨5, 0, numF f 1, 0, decide (wordF f 0 = [84, 73, 77, 69, 79, 85, 84]), 0, 0, zeroD⟩ else if wordF f 0 = [82, 69, 84, 73, 82, 69] then ⟨6, 0, numF f 1, 0, decide (wordF f 2 = [72, 85, 82, 84]), 0, 0, zeroD⟩ else if wordF f 0 = [70, 73, 69, 76, 68] then ⟨7, 0, 0, 0, false, numF f 1, 0, zeroD⟩ else if wordF f 0 = [75, 69, 69, 80, 69, 82] then ⟨8, 0, numF f 1, 0, false, 0, 0, zeroD⟩ else if wordF f 0 = [83, 85, 66] then ⟨9, 0, numF f 1, 0, decide (wordF f 2 = [79, 78]), 0, 0, zeroD⟩ else if wordF f 0 = [78, 69, 87, 66, 65, 76, 76] then ⟨10, 0, 0, 0, false, 0, 0, zeroD⟩ else if wordF f 0 = [68, 69, 67, 76, 65, 82, 69] then ⟨11, numF f 1, 0, 0, false, 0, 0, zeroD⟩ else if wordF f 0 = [70, 79, 76, 76, 79, 87] then ⟨12, numF f 1, 0, 0, decide (wordF f 2 = [89, 69, 83]), 0, 0, zeroD⟩ else if wordF f 0 = [80, 69, 78, 65, 76, 84, 89] then ⟨13, numF f 1, 0, 0, false, numF f 2, 0, zeroD⟩ else if wordF f 0 = [82, 69, 86, 73, 69, 87] then ⟨14, numF f 1, 0, 0, decide (wordF f 2 = [75, 69, 80, 84]), 0, 0, zeroD⟩ else if wordF f 0 = [82, 69, 86, 73, 83, 69] then ⟨15, 0, 0, 0, false, numF f 1, numF f 2, zeroD⟩ else if wordF f 0 = [83, 84, 79, 80] then ⟨16, 0, 0, 0, false, 0, 0, zeroD⟩ else zeroE := rfl
attribute [-simp] Tryz.isAgg29 Tryz.sizeOf29
theorem guess8_r (ws : List (List UInt8)) (A : Option Addr) (c : Nat) (w : World) (hl : ws.length ≤ 10000000) (hz : ∀ x ∈ ws, x.length ≤ 1000000) (hr : Rd stE 1 w w.heap.size A ws) : Calls Tryz.prog 45 #[.slice A ws.length c] w fun e w' => e = .returned (evV (guessF ws)) ∧ Below w.heap.size w w' := by
  obtain ⟨R, hR⟩ : ∃ R, guessF ws = R := ⟨_, rfl⟩
  rw [hR]
  have HR := Lib.hid hR
  have HZ := Lib.hid hz
  have HRD := Lib.hid hr
  obtain ⟨h, hh⟩ : ∃ h, w.heap.size = h := ⟨_, rfl⟩
  have HHH := Lib.hid hh
  obtain ⟨b, hb⟩ : ∃ b, h + 1 = b := ⟨_, rfl⟩
  have HBB := Lib.hid hb
  have hne : h ≠ b := by omega
  obtain ⟨w1, hw1⟩ : ∃ y, (w.alloc (.cells (evE zeroE).toArray 29)).alloc (.cells (evE zeroE).toArray 29) = y := ⟨_, rfl⟩
  have H1 := Lib.hid (show GSt b h w w1 zeroE by
    have hs : (w.alloc (.cells (evE zeroE).toArray 29)).heap.size = b := by rw [World.size_alloc, hh, hb]
    refine ⟨?_, ?_, ?_⟩
    · rw [← hw1, ← hs]; exact Blk.new _ _ (evE zeroE)
    · rw [← hw1, ← hh]; exact (Blk.new w 29 (evE zeroE)).to (cur_new _ _)
    · rw [← hw1]; exact cur_two w _ _)
  have SW1 := Lib.hid (show (w.alloc (.cells #[.int .u8 0, .int .i64 0, .int .i64 0, .int .i64 0, .bool false, .int .i64 0, .int .i64 0, .int .u8 0, .int .u8 0, .int .i64 0, .int .i64 0, .int .i64 0, .bool false, .int .u8 0, .int .i64 0, .int .i64 0, .int .i64 0, .bool false, .int .i64 0] 29)).alloc (.cells #[.int .u8 0, .int .i64 0, .int .i64 0, .int .i64 0, .bool false, .int .i64 0, .int .i64 0, .int .u8 0, .int .u8 0, .int .i64 0, .int .i64 0, .int .i64 0, .bool false, .int .u8 0, .int .i64 0, .int .i64 0, .int .i64 0, .bool false, .int .i64 0] 29) = w1 from hw1)
  have HWB := Lib.hid (show w.heap.size ≤ b by omega)
  have HLW := Lib.hid hl
  clear hR hw1 hh hb hz hr
  obtain ⟨w0, hw0⟩ : ∃ y, wordF ws 0 = y := ⟨_, rfl⟩
  have HW0 := Lib.hid hw0
  obtain ⟨s0, hs0⟩ : ∃ y, sA w0 = y := ⟨_, rfl⟩
  have HS0 := Lib.hid hs0
  clear hw0 hs0
  go_enter Tryz.func45, Tryz.ntmps45
  go_wp2_with (rw [SW1.out, HHH.out])
  rw [HBB.out]
  have hcall := word8_r ws A c 0 w1 HLW.out (by decide) (HRD.out.to H1.out.bl)
  rw [HW0.out, HS0.out] at hcall
  refine hcall.mono ?_
  clear hcall
  rintro e wz ⟨rfl, rfl⟩
  go_upto_block 0 with (fail)
  go_cut [] (fun wx => GSt b h w wx R)
  case first =>
    by_cases q0 : w0 = [84, 79, 83, 83]
    · have g0 : (s0.toList == [84, 79, 83, 83]) = true := by rw [← HS0.out]; exact str_yes q0
      obtain ⟨n0, hn0⟩ : ∃ y, numF ws 1 = y := ⟨_, rfl⟩
      have HN0 := Lib.hid hn0
      clear hn0
      obtain ⟨x1, hx1⟩ : ∃ y, wordF ws 2 = y := ⟨_, rfl⟩
      have HX1 := Lib.hid hx1
      clear hx1
      obtain ⟨sx1, hsx1⟩ : ∃ y, sA x1 = y := ⟨_, rfl⟩
      have HSX1 := Lib.hid hsx1
      clear hsx1
      obtain ⟨y1, hy1⟩ : ∃ y, decide (x1 = [66, 65, 84]) = y := ⟨_, rfl⟩
      have gy1 : (sx1.toList == [66, 65, 84]) = y1 := by rw [← hy1, ← HSX1.out]; exact str_dec _ _
      have HY1 := Lib.hid hy1
      clear hy1
      have HFN := Lib.hid (show R = ⟨1, n0, 0, 0, y1, 0, 0, zeroD⟩ by
        rw [← HR.out, guessG]
        rw [HW0.out, if_pos q0]
        rw [← HN0.out, ← HY1.out, ← HX1.out])
      clear q0
      go_wp2_with (fail)
      have hcall := number8_r ws A c 1 w1 HLW.out (by decide) HZ.out (HRD.out.to H1.out.bl)
      rw [HN0.out] at hcall
      refine hcall.mono ?_
      clear hcall
      rintro e wq0 ⟨rfl, hbq0⟩
      have H2 := Lib.hid (H1.out.to hbq0)
      clear hbq0
      go_wp2_with (fail)
      have hcall := word8_r ws A c 2 wq0 HLW.out (by decide) (HRD.out.to H2.out.bl)
      rw [HX1.out, HSX1.out] at hcall
      refine hcall.mono ?_
      clear hcall
      rintro e wz ⟨rfl, rfl⟩
      go_wp2_with (refine wpList_storeC rfl _ _ 29 rfl b 29 (evE zeroE) (evE ⟨1, n0, 0, 0, y1, 0, 0, zeroD⟩).toArray evt_info (by rfl) (by rfl) H2.out.ev rfl (evt_one _) ?_)
      go_meet
      case rel =>
        rw [HFN.out]
        exact H2.out.row HWB.out hne _
    · have g0 : (s0.toList == [84, 79, 83, 83]) = false := by rw [← HS0.out]; exact str_no q0
      by_cases q1 : w0 = [79, 80, 69, 78]
      · have g1 : (s0.toList == [79, 80, 69, 78]) = true := by rw [← HS0.out]; exact str_yes q1
        obtain ⟨n0, hn0⟩ : ∃ y, numF ws 1 = y := ⟨_, rfl⟩
        have HN0 := Lib.hid hn0
        clear hn0
        obtain ⟨n1, hn1⟩ : ∃ y, numF ws 2 = y := ⟨_, rfl⟩
        have HN1 := Lib.hid hn1
        clear hn1
        have HFN := Lib.hid (show R = ⟨2, 0, n0, n1, false, 0, 0, zeroD⟩ by
          rw [← HR.out, guessG]
          rw [HW0.out, if_neg q0, if_pos q1]
          rw [← HN0.out, ← HN1.out])
        clear q0 q1
        go_wp2_with (fail)
        have hcall := number8_r ws A c 1 w1 HLW.out (by decide) HZ.out (HRD.out.to H1.out.bl)
        rw [HN0.out] at hcall
        refine hcall.mono ?_
        clear hcall
        rintro e wq0 ⟨rfl, hbq0⟩
        have H2 := Lib.hid (H1.out.to hbq0)
        clear hbq0
        go_wp2_with (fail)
        have hcall := number8_r ws A c 2 wq0 HLW.out (by decide) HZ.out (HRD.out.to H2.out.bl)
        rw [HN1.out] at hcall
        refine hcall.mono ?_
        clear hcall
        rintro e wq1 ⟨rfl, hbq1⟩
        have H3 := Lib.hid (H2.out.to hbq1)
        clear hbq1
        go_wp2_with (refine wpList_storeC rfl _ _ 29 rfl b 29 (evE zeroE) (evE ⟨2, 0, n0, n1, false, 0, 0, zeroD⟩).toArray evt_info (by rfl) (by rfl) H3.out.ev rfl (evt_one _) ?_)
        go_meet
        case rel =>
          rw [HFN.out]
          exact H3.out.row HWB.out hne _
      · have g1 : (s0.toList == [79, 80, 69, 78]) = false := by rw [← HS0.out]; exact str_no q1
        by_cases q2 : w0 = [66, 79, 87, 76]
        · have g2 : (s0.toList == [66, 79, 87, 76]) = true := by rw [← HS0.out]; exact str_yes q2
          obtain ⟨n0, hn0⟩ : ∃ y, numF ws 1 = y := ⟨_, rfl⟩
          have HN0 := Lib.hid hn0
          clear hn0
          have HFN := Lib.hid (show R = ⟨3, 0, n0, 0, false, 0, 0, zeroD⟩ by
            rw [← HR.out, guessG]
            rw [HW0.out, if_neg q0, if_neg q1, if_pos q2]
            rw [← HN0.out])
          clear q0 q1 q2
          go_wp2_with (fail)
          have hcall := number8_r ws A c 1 w1 HLW.out (by decide) HZ.out (HRD.out.to H1.out.bl)
          rw [HN0.out] at hcall
          refine hcall.mono ?_
          clear hcall
          rintro e wq0 ⟨rfl, hbq0⟩
          have H2 := Lib.hid (H1.out.to hbq0)
          clear hbq0
          go_wp2_with (refine wpList_storeC rfl _ _ 29 rfl b 29 (evE zeroE) (evE ⟨3, 0, n0, 0, false, 0, 0, zeroD⟩).toArray evt_info (by rfl) (by rfl) H2.out.ev rfl (evt_one _) ?_)
          go_meet
          case rel =>
            rw [HFN.out]
            exact H2.out.row HWB.out hne _
        · have g2 : (s0.toList == [66, 79, 87, 76]) = false := by rw [← HS0.out]; exact str_no q2
          by_cases q3 : w0 = [66, 65, 76, 76]
          · have g3 : (s0.toList == [66, 65, 76, 76]) = true := by rw [← HS0.out]; exact str_yes q3
            obtain ⟨x1, hx1⟩ : ∃ y, wordF ws 1 = y := ⟨_, rfl⟩
            have HXL := Lib.hid (show x1.length ≤ 1000000 by
              rw [← hx1]; unfold wordF; rw [List.getD_eq_getElem?_getD]
              cases h9 : ws[1]? with
              | none => simp
              | some x => exact HZ.out x (List.mem_of_getElem? h9))
            have HX1 := Lib.hid hx1
            clear hx1
            obtain ⟨D9, hD9⟩ : ∃ y, (parD (guessR x1) x1).1 = y := ⟨_, rfl⟩
            have HD9 := Lib.hid hD9
            obtain ⟨E9, hE9⟩ : ∃ y, (parD (guessR x1) x1).2 = y := ⟨_, rfl⟩
            have HE9 := Lib.hid hE9
            clear hD9 hE9
            have HFN := Lib.hid (show R = ⟨4, 0, 0, 0, false, 0, 0, D9⟩ by
              rw [← HR.out, guessG]
              rw [HW0.out, if_neg q0, if_neg q1, if_neg q2, if_pos q3, HX1.out, HD9.out])
            clear q0 q1 q2 q3
            go_wp2_with (fail)
            have hcall := word8_r ws A c 1 w1 HLW.out (by decide) (HRD.out.to H1.out.bl)
            rw [HX1.out] at hcall
            refine hcall.mono ?_
            clear hcall
            rintro e wz ⟨rfl, rfl⟩
            go_wp2_with (fail)
            refine (parse7_r x1 HXL.out w1).mono ?_
            rintro e w9 ⟨rfl, hb9⟩
            rw [HD9.out, HE9.out]
            obtain ⟨w8, hw8⟩ : ∃ y, w9.alloc (.cells (delE D9).toArray 27) = y := ⟨_, rfl⟩
            have H8 := Lib.hid (show GSt b h w w8 zeroE by rw [← hw8]; exact (H1.out.to hb9).to (cur_new _ _))
            have HDB := Lib.hid (show Blk w8 w9.heap.size 27 (delE D9) by rw [← hw8]; exact Blk.new w9 _ _)
            have SW8 := Lib.hid hw8
            clear hw8 hb9
            go_wp2_with (first | (refine wpList_storeNew rfl _ _ 27 rfl _ (delE D9).toArray api_info (by rfl) (by rfl) rfl (api_one _) ?_; rw [SW8.out]) | (refine wpList_loadC rfl _ 27 rfl w9.heap.size 27 [.int .u8 D9.ty, .int .u8 D9.src, .int .i64 D9.runs, .int .i64 D9.short, .int .i64 D9.bd, .bool D9.cr, .int .u8 D9.how, .int .i64 D9.vic, .int .i64 D9.fd, .int .i64 D9.sd, .bool D9.sub, .int .i64 D9.sec] _ rfl (by rfl) (by rfl) (by rfl) HDB.out ?_) | (refine wpList_storeC rfl _ _ 29 rfl b 29 (evE zeroE) (evE ⟨4, 0, 0, 0, false, 0, 0, D9⟩).toArray evt_info (by rfl) (by rfl) H8.out.ev rfl (evt_one _) ?_))
            go_meet
            case rel =>
              rw [HFN.out]
              exact H8.out.row HWB.out hne _
          · have g3 : (s0.toList == [66, 65, 76, 76]) = false := by rw [← HS0.out]; exact str_no q3
            by_cases q4 : w0 = [69, 78, 84, 69, 82]
            · have g4 : (s0.toList == [69, 78, 84, 69, 82]) = true := by rw [← HS0.out]; exact str_yes q4
              obtain ⟨n0, hn0⟩ : ∃ y, numF ws 1 = y := ⟨_, rfl⟩
              have HN0 := Lib.hid hn0
              clear hn0
              have HFN := Lib.hid (show R = ⟨5, 0, n0, 0, false, 0, 0, zeroD⟩ by
                rw [← HR.out, guessG]
                rw [HW0.out, if_neg q0, if_neg q1, if_neg q2, if_neg q3, if_pos (Or.inl q4), ← HN0.out]
                have e9 : decide (w0 = [84, 73, 77, 69, 79, 85, 84]) = false := by rw [q4]; rfl
                rw [e9])
              have hne0 : ∃ x, ws[0]? = some x ∧ x = w0 := by
                have h9 := HW0.out
                unfold wordF at h9
                rw [List.getD_eq_getElem?_getD] at h9
                cases hx : ws[0]? with
                | none => rw [hx] at h9; rw [q4] at h9; cases h9
                | some x => exact ⟨x, rfl, by rw [hx] at h9; exact h9⟩
              obtain ⟨x9, hx9, hxe⟩ := hne0
              subst hxe
              obtain ⟨bb, off, hA9, hbb, hcc⟩ := HRD.out.to H1.out.bl 0 x9 hx9
              have hd0 : w1.cell? ⟨bb, off, none⟩ = some (.string s0) := by rw [← HS0.out]; simpa using hcc 0 _ rfl
              have HD0 := Lib.hid hd0
              have hd1 : w1.drew.cell? ⟨bb, off, none⟩ = some (.string s0) := hd0
              subst hA9
              have gt : (s0.toList == [84, 73, 77, 69, 79, 85, 84]) = false := by rw [← HS0.out, str_dec, q4]; rfl
              have hw0l : 0 < ws.length := (List.getElem?_eq_some_iff.1 hx9).1
              obtain ⟨N, hN⟩ : ∃ N : Nat, 19 = N := ⟨_, rfl⟩
              have hA : ∀ w, Sem.run Tryz.prog (isAgg 29) w = .ok true w := fun w => Tryz.isAgg29 w
              have hZ : ∀ w, Sem.run Tryz.prog (sizeOf 29) w = .ok N w := fun w => by rw [← hN]; exact Tryz.sizeOf29 w
              have hlen : (19 = N) = True := eq_true hN
              have HRD1 := Lib.hid (HRD.out.to H1.out.drew.bl)
              clear hcc hx9 hN hd0
              clear q0 q1 q2 q3 q4
              go_wp2_with (fail)
              refine wp_region_any (by kernel_rfl) ?_
              try (change wpAny _ _ _ _ _ _ _ (World.drew _))
              refine wpAny_take (i := 0) (v := ?_) rfl (by kernel_rfl) (by kernel_rfl) (by kernel_rfl) (fun _ _ _ h => h) (Or.inl ⟨by rfl, ?_⟩) ?_
              rotate_left
              · intro w
                go_simp
                try with_reducible rfl
              refine wpAny_take (i := 2) (v := ?_) rfl (by kernel_rfl) (by kernel_rfl) (by kernel_rfl) (fun _ _ _ h => h) (Or.inl ⟨by rfl, ?_⟩) ?_
              rotate_left
              · intro w
                go_simp
                try with_reducible rfl
              have hcall := number8_r ws _ c 1 w1.drew HLW.out (by decide) HZ.out HRD1.out
              rw [HN0.out] at hcall
              have HCL := Lib.hid hcall
              clear hcall
              refine wpAny_ready (rs := [1, 3]) (by kernel_rfl) (by simp) ?_
              refine AllReady.cons rfl (fun K hK => ?_) (AllReady.cons rfl (fun K hK => ?_) AllReady.nil)
              · go_simp
                refine HCL.out.mono ?_
                rintro e' w9 ⟨rfl, qb⟩
                have H9 := Lib.hid (H1.out.drew.to qb)
                have hd9 : w9.cell? ⟨bb, off, none⟩ = some (.string s0) := (qb.cell (p := ⟨bb, off, none⟩) hbb).trans HD0.out
                dsimp only
                refine hK _ _ ?_
                clear hK K
                refine wpAny_ready (rs := [3]) (by kernel_rfl) (by simp) ?_
                refine AllReady.cons rfl (fun K hK => ?_) AllReady.nil
                go_simp
                refine hK _ _ ?_
                clear hK K
                refine wpAny_ready (rs := [4]) (by kernel_rfl) (by simp) ?_
                refine AllReady.cons rfl (fun K hK => ?_) AllReady.nil
                go_simp
                refine hK _ _ ?_
                clear hK K
                refine wpAny_ready (rs := [5]) (by kernel_rfl) (by simp) ?_
                refine AllReady.cons rfl (fun K hK => ?_) AllReady.nil
                go_simp
                refine hK _ _ ?_
                clear hK K
                refine wpAny_ready (rs := [6]) (by kernel_rfl) (by simp) ?_
                refine AllReady.cons rfl (fun K hK => ?_) AllReady.nil
                go_simp
                refine hK _ _ ?_
                clear hK K
                refine wpAny_ready (rs := [7]) (by kernel_rfl) (by simp) ?_
                refine AllReady.cons rfl (fun K hK => ?_) AllReady.nil
                refine step_storeC (by rfl) _ _ 29 (by rfl) b 29 (evE zeroE) (evE ⟨5, 0, n0, 0, false, 0, 0, zeroD⟩).toArray evt_info (by rfl) (by rfl) H9.out.ev rfl (evt_one _) ?_
                refine hK _ _ ?_
                clear hK K
                refine wpAny_done (by kernel_rfl) ?_ _
                go_wp2_with (fail)
                go_meet
                case rel =>
                  rw [HFN.out]
                  exact H9.out.row HWB.out hne _
              · go_simp
                refine hK _ _ ?_
                clear hK K
                refine wpAny_ready (rs := [1, 4]) (by kernel_rfl) (by simp) ?_
                refine AllReady.cons rfl (fun K hK => ?_) (AllReady.cons rfl (fun K hK => ?_) AllReady.nil)
                · go_simp
                  refine HCL.out.mono ?_
                  rintro e' w9 ⟨rfl, qb⟩
                  have H9 := Lib.hid (H1.out.drew.to qb)
                  have hd9 : w9.cell? ⟨bb, off, none⟩ = some (.string s0) := (qb.cell (p := ⟨bb, off, none⟩) hbb).trans HD0.out
                  dsimp only
                  refine hK _ _ ?_
                  clear hK K
                  refine wpAny_ready (rs := [4]) (by kernel_rfl) (by simp) ?_
                  refine AllReady.cons rfl (fun K hK => ?_) AllReady.nil
                  go_simp
                  refine hK _ _ ?_
                  clear hK K
                  refine wpAny_ready (rs := [5]) (by kernel_rfl) (by simp) ?_
                  refine AllReady.cons rfl (fun K hK => ?_) AllReady.nil
                  go_simp
                  refine hK _ _ ?_
                  clear hK K
                  refine wpAny_ready (rs := [6]) (by kernel_rfl) (by simp) ?_
                  refine AllReady.cons rfl (fun K hK => ?_) AllReady.nil
                  go_simp
                  refine hK _ _ ?_
                  clear hK K
                  refine wpAny_ready (rs := [7]) (by kernel_rfl) (by simp) ?_
                  refine AllReady.cons rfl (fun K hK => ?_) AllReady.nil
                  refine step_storeC (by rfl) _ _ 29 (by rfl) b 29 (evE zeroE) (evE ⟨5, 0, n0, 0, false, 0, 0, zeroD⟩).toArray evt_info (by rfl) (by rfl) H9.out.ev rfl (evt_one _) ?_
                  refine hK _ _ ?_
                  clear hK K
                  refine wpAny_done (by kernel_rfl) ?_ _
                  go_wp2_with (fail)
                  go_meet
                  case rel =>
                    rw [HFN.out]
                    exact H9.out.row HWB.out hne _
                · go_simp
                  refine hK _ _ ?_
                  clear hK K
                  refine wpAny_ready (rs := [1, 5]) (by kernel_rfl) (by simp) ?_
                  refine AllReady.cons rfl (fun K hK => ?_) (AllReady.cons rfl (fun K hK => ?_) AllReady.nil)
                  · go_simp
                    refine HCL.out.mono ?_
                    rintro e' w9 ⟨rfl, qb⟩
                    have H9 := Lib.hid (H1.out.drew.to qb)
                    dsimp only
                    refine hK _ _ ?_
                    clear hK K
                    refine wpAny_ready (rs := [5]) (by kernel_rfl) (by simp) ?_
                    refine AllReady.cons rfl (fun K hK => ?_) AllReady.nil
                    go_simp
                    refine hK _ _ ?_
                    clear hK K
                    refine wpAny_ready (rs := [6]) (by kernel_rfl) (by simp) ?_
                    refine AllReady.cons rfl (fun K hK => ?_) AllReady.nil
                    go_simp
                    refine hK _ _ ?_
                    clear hK K
                    refine wpAny_ready (rs := [7]) (by kernel_rfl) (by simp) ?_
                    refine AllReady.cons rfl (fun K hK => ?_) AllReady.nil
                    refine step_storeC (by rfl) _ _ 29 (by rfl) b 29 (evE zeroE) (evE ⟨5, 0, n0, 0, false, 0, 0, zeroD⟩).toArray evt_info (by rfl) (by rfl) H9.out.ev rfl (evt_one _) ?_
                    refine hK _ _ ?_
                    clear hK K
                    refine wpAny_done (by kernel_rfl) ?_ _
                    go_wp2_with (fail)
                    go_meet
                    case rel =>
                      rw [HFN.out]
                      exact H9.out.row HWB.out hne _
                  · go_simp
                    refine hK _ _ ?_
                    clear hK K
                    refine wpAny_ready (rs := [1]) (by kernel_rfl) (by simp) ?_
                    refine AllReady.cons rfl (fun K hK => ?_) AllReady.nil
                    go_simp
                    refine HCL.out.mono ?_
                    rintro e' w9 ⟨rfl, qb⟩
                    have H9 := Lib.hid (H1.out.drew.to qb)
                    dsimp only
                    refine hK _ _ ?_
                    clear hK K
                    refine wpAny_ready (rs := [6]) (by kernel_rfl) (by simp) ?_
                    refine AllReady.cons rfl (fun K hK => ?_) AllReady.nil
                    go_simp
                    refine hK _ _ ?_
                    clear hK K
                    refine wpAny_ready (rs := [7]) (by kernel_rfl) (by simp) ?_
                    refine AllReady.cons rfl (fun K hK => ?_) AllReady.nil
                    refine step_storeC (by rfl) _ _ 29 (by rfl) b 29 (evE zeroE) (evE ⟨5, 0, n0, 0, false, 0, 0, zeroD⟩).toArray evt_info (by rfl) (by rfl) H9.out.ev rfl (evt_one _) ?_
                    refine hK _ _ ?_
                    clear hK K
                    refine wpAny_done (by kernel_rfl) ?_ _
                    go_wp2_with (fail)
                    go_meet
                    case rel =>
                      rw [HFN.out]
                      exact H9.out.row HWB.out hne _
            · have g4 : (s0.toList == [69, 78, 84, 69, 82]) = false := by rw [← HS0.out]; exact str_no q4
              by_cases q5 : w0 = [84, 73, 77, 69, 79, 85, 84]
              · have g5 : (s0.toList == [84, 73, 77, 69, 79, 85, 84]) = true := by rw [← HS0.out]; exact str_yes q5
                obtain ⟨n0, hn0⟩ : ∃ y, numF ws 1 = y := ⟨_, rfl⟩
                have HN0 := Lib.hid hn0
                clear hn0
                have HFN := Lib.hid (show R = ⟨5, 0, n0, 0, true, 0, 0, zeroD⟩ by
                  rw [← HR.out, guessG]
                  rw [HW0.out, if_neg q0, if_neg q1, if_neg q2, if_neg q3, if_pos (Or.inr q5), ← HN0.out]
                  have e9 : decide (w0 = [84, 73, 77, 69, 79, 85, 84]) = true := by rw [q5]; rfl
                  rw [e9])
                have hne0 : ∃ x, ws[0]? = some x ∧ x = w0 := by
                  have h9 := HW0.out
                  unfold wordF at h9
                  rw [List.getD_eq_getElem?_getD] at h9
                  cases hx : ws[0]? with
                  | none => rw [hx] at h9; rw [q5] at h9; cases h9
                  | some x => exact ⟨x, rfl, by rw [hx] at h9; exact h9⟩
                obtain ⟨x9, hx9, hxe⟩ := hne0
                subst hxe
                obtain ⟨bb, off, hA9, hbb, hcc⟩ := HRD.out.to H1.out.bl 0 x9 hx9
                have hd0 : w1.cell? ⟨bb, off, none⟩ = some (.string s0) := by rw [← HS0.out]; simpa using hcc 0 _ rfl
                have HD0 := Lib.hid hd0
                have hd1 : w1.drew.cell? ⟨bb, off, none⟩ = some (.string s0) := hd0
                subst hA9
                have gt : (s0.toList == [84, 73, 77, 69, 79, 85, 84]) = true := by rw [← HS0.out, str_dec, q5]; rfl
                have hw0l : 0 < ws.length := (List.getElem?_eq_some_iff.1 hx9).1
                obtain ⟨N, hN⟩ : ∃ N : Nat, 19 = N := ⟨_, rfl⟩
                have hA : ∀ w, Sem.run Tryz.prog (isAgg 29) w = .ok true w := fun w => Tryz.isAgg29 w
                have hZ : ∀ w, Sem.run Tryz.prog (sizeOf 29) w = .ok N w := fun w => by rw [← hN]; exact Tryz.sizeOf29 w
                have hlen : (19 = N) = True := eq_true hN
                have HRD1 := Lib.hid (HRD.out.to H1.out.drew.bl)
                clear hcc hx9 hN hd0
                clear q0 q1 q2 q3 q4 q5
                go_wp2_with (fail)
                refine wp_region_any (by kernel_rfl) ?_
                try (change wpAny _ _ _ _ _ _ _ (World.drew _))
                refine wpAny_take (i := 0) (v := ?_) rfl (by kernel_rfl) (by kernel_rfl) (by kernel_rfl) (fun _ _ _ h => h) (Or.inl ⟨by rfl, ?_⟩) ?_
                rotate_left
                · intro w
                  go_simp
                  try with_reducible rfl
                refine wpAny_take (i := 2) (v := ?_) rfl (by kernel_rfl) (by kernel_rfl) (by kernel_rfl) (fun _ _ _ h => h) (Or.inl ⟨by rfl, ?_⟩) ?_
                rotate_left
                · intro w
                  go_simp
                  try with_reducible rfl
                have hcall := number8_r ws _ c 1 w1.drew HLW.out (by decide) HZ.out HRD1.out
                rw [HN0.out] at hcall
                have HCL := Lib.hid hcall
                clear hcall
                refine wpAny_ready (rs := [1, 3]) (by kernel_rfl) (by simp) ?_
                refine AllReady.cons rfl (fun K hK => ?_) (AllReady.cons rfl (fun K hK => ?_) AllReady.nil)
                · go_simp
                  refine HCL.out.mono ?_
                  rintro e' w9 ⟨rfl, qb⟩
                  have H9 := Lib.hid (H1.out.drew.to qb)
                  have hd9 : w9.cell? ⟨bb, off, none⟩ = some (.string s0) := (qb.cell (p := ⟨bb, off, none⟩) hbb).trans HD0.out
                  dsimp only
                  refine hK _ _ ?_
                  clear hK K
                  refine wpAny_ready (rs := [3]) (by kernel_rfl) (by simp) ?_
                  refine AllReady.cons rfl (fun K hK => ?_) AllReady.nil
                  go_simp
                  refine hK _ _ ?_
                  clear hK K
                  refine wpAny_ready (rs := [4]) (by kernel_rfl) (by simp) ?_
                  refine AllReady.cons rfl (fun K hK => ?_) AllReady.nil
                  go_simp
                  refine hK _ _ ?_
                  clear hK K
                  refine wpAny_ready (rs := [5]) (by kernel_rfl) (by simp) ?_
                  refine AllReady.cons rfl (fun K hK => ?_) AllReady.nil
                  go_simp
                  refine hK _ _ ?_
                  clear hK K
                  refine wpAny_ready (rs := [6]) (by kernel_rfl) (by simp) ?_
                  refine AllReady.cons rfl (fun K hK => ?_) AllReady.nil
                  go_simp
                  refine hK _ _ ?_
                  clear hK K
                  refine wpAny_ready (rs := [7]) (by kernel_rfl) (by simp) ?_
                  refine AllReady.cons rfl (fun K hK => ?_) AllReady.nil
                  refine step_storeC (by rfl) _ _ 29 (by rfl) b 29 (evE zeroE) (evE ⟨5, 0, n0, 0, true, 0, 0, zeroD⟩).toArray evt_info (by rfl) (by rfl) H9.out.ev rfl (evt_one _) ?_
                  refine hK _ _ ?_
                  clear hK K
                  refine wpAny_done (by kernel_rfl) ?_ _
                  go_wp2_with (fail)
                  go_meet
                  case rel =>
                    rw [HFN.out]
                    exact H9.out.row HWB.out hne _
                · go_simp
                  refine hK _ _ ?_
                  clear hK K
                  refine wpAny_ready (rs := [1, 4]) (by kernel_rfl) (by simp) ?_
                  refine AllReady.cons rfl (fun K hK => ?_) (AllReady.cons rfl (fun K hK => ?_) AllReady.nil)
                  · go_simp
                    refine HCL.out.mono ?_
                    rintro e' w9 ⟨rfl, qb⟩
                    have H9 := Lib.hid (H1.out.drew.to qb)
                    have hd9 : w9.cell? ⟨bb, off, none⟩ = some (.string s0) := (qb.cell (p := ⟨bb, off, none⟩) hbb).trans HD0.out
                    dsimp only
                    refine hK _ _ ?_
                    clear hK K
                    refine wpAny_ready (rs := [4]) (by kernel_rfl) (by simp) ?_
                    refine AllReady.cons rfl (fun K hK => ?_) AllReady.nil
                    go_simp
                    refine hK _ _ ?_
                    clear hK K
                    refine wpAny_ready (rs := [5]) (by kernel_rfl) (by simp) ?_
                    refine AllReady.cons rfl (fun K hK => ?_) AllReady.nil
                    go_simp
                    refine hK _ _ ?_
                    clear hK K
                    refine wpAny_ready (rs := [6]) (by kernel_rfl) (by simp) ?_
                    refine AllReady.cons rfl (fun K hK => ?_) AllReady.nil
                    go_simp
                    refine hK _ _ ?_
                    clear hK K
                    refine wpAny_ready (rs := [7]) (by kernel_rfl) (by simp) ?_
                    refine AllReady.cons rfl (fun K hK => ?_) AllReady.nil
                    refine step_storeC (by rfl) _ _ 29 (by rfl) b 29 (evE zeroE) (evE ⟨5, 0, n0, 0, true, 0, 0, zeroD⟩).toArray evt_info (by rfl) (by rfl) H9.out.ev rfl (evt_one _) ?_
                    refine hK _ _ ?_
                    clear hK K
                    refine wpAny_done (by kernel_rfl) ?_ _
                    go_wp2_with (fail)
                    go_meet
                    case rel =>
                      rw [HFN.out]
                      exact H9.out.row HWB.out hne _
                  · go_simp
                    refine hK _ _ ?_
                    clear hK K
                    refine wpAny_ready (rs := [1, 5]) (by kernel_rfl) (by simp) ?_
                    refine AllReady.cons rfl (fun K hK => ?_) (AllReady.cons rfl (fun K hK => ?_) AllReady.nil)
                    · go_simp
                      refine HCL.out.mono ?_
                      rintro e' w9 ⟨rfl, qb⟩
                      have H9 := Lib.hid (H1.out.drew.to qb)
                      dsimp only
                      refine hK _ _ ?_
                      clear hK K
                      refine wpAny_ready (rs := [5]) (by kernel_rfl) (by simp) ?_
                      refine AllReady.cons rfl (fun K hK => ?_) AllReady.nil
                      go_simp
                      refine hK _ _ ?_
                      clear hK K
                      refine wpAny_ready (rs := [6]) (by kernel_rfl) (by simp) ?_
                      refine AllReady.cons rfl (fun K hK => ?_) AllReady.nil
                      go_simp
                      refine hK _ _ ?_
                      clear hK K
                      refine wpAny_ready (rs := [7]) (by kernel_rfl) (by simp) ?_
                      refine AllReady.cons rfl (fun K hK => ?_) AllReady.nil
                      refine step_storeC (by rfl) _ _ 29 (by rfl) b 29 (evE zeroE) (evE ⟨5, 0, n0, 0, true, 0, 0, zeroD⟩).toArray evt_info (by rfl) (by rfl) H9.out.ev rfl (evt_one _) ?_
                      refine hK _ _ ?_
                      clear hK K
                      refine wpAny_done (by kernel_rfl) ?_ _
                      go_wp2_with (fail)
                      go_meet
                      case rel =>
                        rw [HFN.out]
                        exact H9.out.row HWB.out hne _
                    · go_simp
                      refine hK _ _ ?_
                      clear hK K
                      refine wpAny_ready (rs := [1]) (by kernel_rfl) (by simp) ?_
                      refine AllReady.cons rfl (fun K hK => ?_) AllReady.nil
                      go_simp
                      refine HCL.out.mono ?_
                      rintro e' w9 ⟨rfl, qb⟩
                      have H9 := Lib.hid (H1.out.drew.to qb)
                      dsimp only
                      refine hK _ _ ?_
                      clear hK K
                      refine wpAny_ready (rs := [6]) (by kernel_rfl) (by simp) ?_
                      refine AllReady.cons rfl (fun K hK => ?_) AllReady.nil
                      go_simp
                      refine hK _ _ ?_
                      clear hK K
                      refine wpAny_ready (rs := [7]) (by kernel_rfl) (by simp) ?_
                      refine AllReady.cons rfl (fun K hK => ?_) AllReady.nil
                      refine step_storeC (by rfl) _ _ 29 (by rfl) b 29 (evE zeroE) (evE ⟨5, 0, n0, 0, true, 0, 0, zeroD⟩).toArray evt_info (by rfl) (by rfl) H9.out.ev rfl (evt_one _) ?_
                      refine hK _ _ ?_
                      clear hK K
                      refine wpAny_done (by kernel_rfl) ?_ _
                      go_wp2_with (fail)
                      go_meet
                      case rel =>
                        rw [HFN.out]
                        exact H9.out.row HWB.out hne _
              · have g5 : (s0.toList == [84, 73, 77, 69, 79, 85, 84]) = false := by rw [← HS0.out]; exact str_no q5
                by_cases q6 : w0 = [82, 69, 84, 73, 82, 69]
                · have g6 : (s0.toList == [82, 69, 84, 73, 82, 69]) = true := by rw [← HS0.out]; exact str_yes q6
                  obtain ⟨n0, hn0⟩ : ∃ y, numF ws 1 = y := ⟨_, rfl⟩
                  have HN0 := Lib.hid hn0
                  clear hn0
                  obtain ⟨x1, hx1⟩ : ∃ y, wordF ws 2 = y := ⟨_, rfl⟩
                  have HX1 := Lib.hid hx1
                  clear hx1
                  obtain ⟨sx1, hsx1⟩ : ∃ y, sA x1 = y := ⟨_, rfl⟩
                  have HSX1 := Lib.hid hsx1
                  clear hsx1
                  obtain ⟨y1, hy1⟩ : ∃ y, decide (x1 = [72, 85, 82, 84]) = y := ⟨_, rfl⟩
                  have gy1 : (sx1.toList == [72, 85, 82, 84]) = y1 := by rw [← hy1, ← HSX1.out]; exact str_dec _ _
                  have HY1 := Lib.hid hy1
                  clear hy1
                  have HFN := Lib.hid (show R = ⟨6, 0, n0, 0, y1, 0, 0, zeroD⟩ by
                    rw [← HR.out, guessG]
                    rw [HW0.out, if_neg q0, if_neg q1, if_neg q2, if_neg q3, if_neg (fun q => q.elim q4 q5), if_pos q6]
                    rw [← HN0.out, ← HY1.out, ← HX1.out])
                  clear q0 q1 q2 q3 q4 q5 q6
                  go_wp2_with (fail)
                  have hcall := number8_r ws A c 1 w1 HLW.out (by decide) HZ.out (HRD.out.to H1.out.bl)
                  rw [HN0.out] at hcall
                  refine hcall.mono ?_
                  clear hcall
                  rintro e wq0 ⟨rfl, hbq0⟩
                  have H2 := Lib.hid (H1.out.to hbq0)
                  clear hbq0
                  go_wp2_with (fail)
                  have hcall := word8_r ws A c 2 wq0 HLW.out (by decide) (HRD.out.to H2.out.bl)
                  rw [HX1.out, HSX1.out] at hcall
                  refine hcall.mono ?_
                  clear hcall
                  rintro e wz ⟨rfl, rfl⟩
                  go_wp2_with (refine wpList_storeC rfl _ _ 29 rfl b 29 (evE zeroE) (evE ⟨6, 0, n0, 0, y1, 0, 0, zeroD⟩).toArray evt_info (by rfl) (by rfl) H2.out.ev rfl (evt_one _) ?_)
                  go_meet
                  case rel =>
                    rw [HFN.out]
                    exact H2.out.row HWB.out hne _
                · have g6 : (s0.toList == [82, 69, 84, 73, 82, 69]) = false := by rw [← HS0.out]; exact str_no q6
                  by_cases q7 : w0 = [70, 73, 69, 76, 68]
                  · have g7 : (s0.toList == [70, 73, 69, 76, 68]) = true := by rw [← HS0.out]; exact str_yes q7
                    obtain ⟨n0, hn0⟩ : ∃ y, numF ws 1 = y := ⟨_, rfl⟩
                    have HN0 := Lib.hid hn0
                    clear hn0
                    have HFN := Lib.hid (show R = ⟨7, 0, 0, 0, false, n0, 0, zeroD⟩ by
                      rw [← HR.out, guessG]
                      rw [HW0.out, if_neg q0, if_neg q1, if_neg q2, if_neg q3, if_neg (fun q => q.elim q4 q5), if_neg q6, if_pos q7]
                      rw [← HN0.out])
                    clear q0 q1 q2 q3 q4 q5 q6 q7
                    go_wp2_with (fail)
                    have hcall := number8_r ws A c 1 w1 HLW.out (by decide) HZ.out (HRD.out.to H1.out.bl)
                    rw [HN0.out] at hcall
                    refine hcall.mono ?_
                    clear hcall
                    rintro e wq0 ⟨rfl, hbq0⟩
                    have H2 := Lib.hid (H1.out.to hbq0)
                    clear hbq0
                    go_wp2_with (refine wpList_storeC rfl _ _ 29 rfl b 29 (evE zeroE) (evE ⟨7, 0, 0, 0, false, n0, 0, zeroD⟩).toArray evt_info (by rfl) (by rfl) H2.out.ev rfl (evt_one _) ?_)
                    go_meet
                    case rel =>
                      rw [HFN.out]
                      exact H2.out.row HWB.out hne _
                  · have g7 : (s0.toList == [70, 73, 69, 76, 68]) = false := by rw [← HS0.out]; exact str_no q7
                    by_cases q8 : w0 = [75, 69, 69, 80, 69, 82]
                    · have g8 : (s0.toList == [75, 69, 69, 80, 69, 82]) = true := by rw [← HS0.out]; exact str_yes q8
                      obtain ⟨n0, hn0⟩ : ∃ y, numF ws 1 = y := ⟨_, rfl⟩
                      have HN0 := Lib.hid hn0
                      clear hn0
                      have HFN := Lib.hid (show R = ⟨8, 0, n0, 0, false, 0, 0, zeroD⟩ by
                        rw [← HR.out, guessG]
                        rw [HW0.out, if_neg q0, if_neg q1, if_neg q2, if_neg q3, if_neg (fun q => q.elim q4 q5), if_neg q6, if_neg q7, if_pos q8]
                        rw [← HN0.out])
                      clear q0 q1 q2 q3 q4 q5 q6 q7 q8
                      go_wp2_with (fail)
                      have hcall := number8_r ws A c 1 w1 HLW.out (by decide) HZ.out (HRD.out.to H1.out.bl)
                      rw [HN0.out] at hcall
                      refine hcall.mono ?_
                      clear hcall
                      rintro e wq0 ⟨rfl, hbq0⟩
                      have H2 := Lib.hid (H1.out.to hbq0)
                      clear hbq0
                      go_wp2_with (refine wpList_storeC rfl _ _ 29 rfl b 29 (evE zeroE) (evE ⟨8, 0, n0, 0, false, 0, 0, zeroD⟩).toArray evt_info (by rfl) (by rfl) H2.out.ev rfl (evt_one _) ?_)
                      go_meet
                      case rel =>
                        rw [HFN.out]
                        exact H2.out.row HWB.out hne _
                    · have g8 : (s0.toList == [75, 69, 69, 80, 69, 82]) = false := by rw [← HS0.out]; exact str_no q8
                      by_cases q9 : w0 = [83, 85, 66]
                      · have g9 : (s0.toList == [83, 85, 66]) = true := by rw [← HS0.out]; exact str_yes q9
                        obtain ⟨n0, hn0⟩ : ∃ y, numF ws 1 = y := ⟨_, rfl⟩
                        have HN0 := Lib.hid hn0
                        clear hn0
                        obtain ⟨x1, hx1⟩ : ∃ y, wordF ws 2 = y := ⟨_, rfl⟩
                        have HX1 := Lib.hid hx1
                        clear hx1
                        obtain ⟨sx1, hsx1⟩ : ∃ y, sA x1 = y := ⟨_, rfl⟩
                        have HSX1 := Lib.hid hsx1
                        clear hsx1
                        obtain ⟨y1, hy1⟩ : ∃ y, decide (x1 = [79, 78]) = y := ⟨_, rfl⟩
                        have gy1 : (sx1.toList == [79, 78]) = y1 := by rw [← hy1, ← HSX1.out]; exact str_dec _ _
                        have HY1 := Lib.hid hy1
                        clear hy1
                        have HFN := Lib.hid (show R = ⟨9, 0, n0, 0, y1, 0, 0, zeroD⟩ by
                          rw [← HR.out, guessG]
                          rw [HW0.out, if_neg q0, if_neg q1, if_neg q2, if_neg q3, if_neg (fun q => q.elim q4 q5), if_neg q6, if_neg q7, if_neg q8, if_pos q9]
                          rw [← HN0.out, ← HY1.out, ← HX1.out])
                        clear q0 q1 q2 q3 q4 q5 q6 q7 q8 q9
                        go_wp2_with (fail)
                        have hcall := number8_r ws A c 1 w1 HLW.out (by decide) HZ.out (HRD.out.to H1.out.bl)
                        rw [HN0.out] at hcall
                        refine hcall.mono ?_
                        clear hcall
                        rintro e wq0 ⟨rfl, hbq0⟩
                        have H2 := Lib.hid (H1.out.to hbq0)
                        clear hbq0
                        go_wp2_with (fail)
                        have hcall := word8_r ws A c 2 wq0 HLW.out (by decide) (HRD.out.to H2.out.bl)
                        rw [HX1.out, HSX1.out] at hcall
                        refine hcall.mono ?_
                        clear hcall
                        rintro e wz ⟨rfl, rfl⟩
                        go_wp2_with (refine wpList_storeC rfl _ _ 29 rfl b 29 (evE zeroE) (evE ⟨9, 0, n0, 0, y1, 0, 0, zeroD⟩).toArray evt_info (by rfl) (by rfl) H2.out.ev rfl (evt_one _) ?_)
                        go_meet
                        case rel =>
                          rw [HFN.out]
                          exact H2.out.row HWB.out hne _
                      · have g9 : (s0.toList == [83, 85, 66]) = false := by rw [← HS0.out]; exact str_no q9
                        by_cases q10 : w0 = [78, 69, 87, 66, 65, 76, 76]
                        · have g10 : (s0.toList == [78, 69, 87, 66, 65, 76, 76]) = true := by rw [← HS0.out]; exact str_yes q10
                          have HFN := Lib.hid (show R = ⟨10, 0, 0, 0, false, 0, 0, zeroD⟩ by
                            rw [← HR.out, guessG]
                            rw [HW0.out, if_neg q0, if_neg q1, if_neg q2, if_neg q3, if_neg (fun q => q.elim q4 q5), if_neg q6, if_neg q7, if_neg q8, if_neg q9, if_pos q10]
                            skip)
                          clear q0 q1 q2 q3 q4 q5 q6 q7 q8 q9 q10
                          go_wp2_with (refine wpList_storeC rfl _ _ 29 rfl b 29 (evE zeroE) (evE ⟨10, 0, 0, 0, false, 0, 0, zeroD⟩).toArray evt_info (by rfl) (by rfl) H1.out.ev rfl (evt_one _) ?_)
                          go_meet
                          case rel =>
                            rw [HFN.out]
                            exact H1.out.row HWB.out hne _
                        · have g10 : (s0.toList == [78, 69, 87, 66, 65, 76, 76]) = false := by rw [← HS0.out]; exact str_no q10
                          by_cases q11 : w0 = [68, 69, 67, 76, 65, 82, 69]
                          · have g11 : (s0.toList == [68, 69, 67, 76, 65, 82, 69]) = true := by rw [← HS0.out]; exact str_yes q11
                            obtain ⟨n0, hn0⟩ : ∃ y, numF ws 1 = y := ⟨_, rfl⟩
                            have HN0 := Lib.hid hn0
                            clear hn0
                            have HFN := Lib.hid (show R = ⟨11, n0, 0, 0, false, 0, 0, zeroD⟩ by
                              rw [← HR.out, guessG]
                              rw [HW0.out, if_neg q0, if_neg q1, if_neg q2, if_neg q3, if_neg (fun q => q.elim q4 q5), if_neg q6, if_neg q7, if_neg q8, if_neg q9, if_neg q10, if_pos q11]
                              rw [← HN0.out])
                            clear q0 q1 q2 q3 q4 q5 q6 q7 q8 q9 q10 q11
                            go_wp2_with (fail)
                            have hcall := number8_r ws A c 1 w1 HLW.out (by decide) HZ.out (HRD.out.to H1.out.bl)
                            rw [HN0.out] at hcall
                            refine hcall.mono ?_
                            clear hcall
                            rintro e wq0 ⟨rfl, hbq0⟩
                            have H2 := Lib.hid (H1.out.to hbq0)
                            clear hbq0
                            go_wp2_with (refine wpList_storeC rfl _ _ 29 rfl b 29 (evE zeroE) (evE ⟨11, n0, 0, 0, false, 0, 0, zeroD⟩).toArray evt_info (by rfl) (by rfl) H2.out.ev rfl (evt_one _) ?_)
                            go_meet
                            case rel =>
                              rw [HFN.out]
                              exact H2.out.row HWB.out hne _
                          · have g11 : (s0.toList == [68, 69, 67, 76, 65, 82, 69]) = false := by rw [← HS0.out]; exact str_no q11
                            by_cases q12 : w0 = [70, 79, 76, 76, 79, 87]
                            · have g12 : (s0.toList == [70, 79, 76, 76, 79, 87]) = true := by rw [← HS0.out]; exact str_yes q12
                              obtain ⟨n0, hn0⟩ : ∃ y, numF ws 1 = y := ⟨_, rfl⟩
                              have HN0 := Lib.hid hn0
                              clear hn0
                              obtain ⟨x1, hx1⟩ : ∃ y, wordF ws 2 = y := ⟨_, rfl⟩
                              have HX1 := Lib.hid hx1
                              clear hx1
                              obtain ⟨sx1, hsx1⟩ : ∃ y, sA x1 = y := ⟨_, rfl⟩
                              have HSX1 := Lib.hid hsx1
                              clear hsx1
                              obtain ⟨y1, hy1⟩ : ∃ y, decide (x1 = [89, 69, 83]) = y := ⟨_, rfl⟩
                              have gy1 : (sx1.toList == [89, 69, 83]) = y1 := by rw [← hy1, ← HSX1.out]; exact str_dec _ _
                              have HY1 := Lib.hid hy1
                              clear hy1
                              have HFN := Lib.hid (show R = ⟨12, n0, 0, 0, y1, 0, 0, zeroD⟩ by
                                rw [← HR.out, guessG]
                                rw [HW0.out, if_neg q0, if_neg q1, if_neg q2, if_neg q3, if_neg (fun q => q.elim q4 q5), if_neg q6, if_neg q7, if_neg q8, if_neg q9, if_neg q10, if_neg q11, if_pos q12]
                                rw [← HN0.out, ← HY1.out, ← HX1.out])
                              clear q0 q1 q2 q3 q4 q5 q6 q7 q8 q9 q10 q11 q12
                              go_wp2_with (fail)
                              have hcall := number8_r ws A c 1 w1 HLW.out (by decide) HZ.out (HRD.out.to H1.out.bl)
                              rw [HN0.out] at hcall
                              refine hcall.mono ?_
                              clear hcall
                              rintro e wq0 ⟨rfl, hbq0⟩
                              have H2 := Lib.hid (H1.out.to hbq0)
                              clear hbq0
                              go_wp2_with (fail)
                              have hcall := word8_r ws A c 2 wq0 HLW.out (by decide) (HRD.out.to H2.out.bl)
                              rw [HX1.out, HSX1.out] at hcall
                              refine hcall.mono ?_
                              clear hcall
                              rintro e wz ⟨rfl, rfl⟩
                              go_wp2_with (refine wpList_storeC rfl _ _ 29 rfl b 29 (evE zeroE) (evE ⟨12, n0, 0, 0, y1, 0, 0, zeroD⟩).toArray evt_info (by rfl) (by rfl) H2.out.ev rfl (evt_one _) ?_)
                              go_meet
                              case rel =>
                                rw [HFN.out]
                                exact H2.out.row HWB.out hne _
                            · have g12 : (s0.toList == [70, 79, 76, 76, 79, 87]) = false := by rw [← HS0.out]; exact str_no q12
                              by_cases q13 : w0 = [80, 69, 78, 65, 76, 84, 89]
                              · have g13 : (s0.toList == [80, 69, 78, 65, 76, 84, 89]) = true := by rw [← HS0.out]; exact str_yes q13
                                obtain ⟨n0, hn0⟩ : ∃ y, numF ws 1 = y := ⟨_, rfl⟩
                                have HN0 := Lib.hid hn0
                                clear hn0
                                obtain ⟨n1, hn1⟩ : ∃ y, numF ws 2 = y := ⟨_, rfl⟩
                                have HN1 := Lib.hid hn1
                                clear hn1
                                have HFN := Lib.hid (show R = ⟨13, n0, 0, 0, false, n1, 0, zeroD⟩ by
                                  rw [← HR.out, guessG]
                                  rw [HW0.out, if_neg q0, if_neg q1, if_neg q2, if_neg q3, if_neg (fun q => q.elim q4 q5), if_neg q6, if_neg q7, if_neg q8, if_neg q9, if_neg q10, if_neg q11, if_neg q12, if_pos q13]
                                  rw [← HN0.out, ← HN1.out])
                                clear q0 q1 q2 q3 q4 q5 q6 q7 q8 q9 q10 q11 q12 q13
                                go_wp2_with (fail)
                                have hcall := number8_r ws A c 1 w1 HLW.out (by decide) HZ.out (HRD.out.to H1.out.bl)
                                rw [HN0.out] at hcall
                                refine hcall.mono ?_
                                clear hcall
                                rintro e wq0 ⟨rfl, hbq0⟩
                                have H2 := Lib.hid (H1.out.to hbq0)
                                clear hbq0
                                go_wp2_with (fail)
                                have hcall := number8_r ws A c 2 wq0 HLW.out (by decide) HZ.out (HRD.out.to H2.out.bl)
                                rw [HN1.out] at hcall
                                refine hcall.mono ?_
                                clear hcall
                                rintro e wq1 ⟨rfl, hbq1⟩
                                have H3 := Lib.hid (H2.out.to hbq1)
                                clear hbq1
                                go_wp2_with (refine wpList_storeC rfl _ _ 29 rfl b 29 (evE zeroE) (evE ⟨13, n0, 0, 0, false, n1, 0, zeroD⟩).toArray evt_info (by rfl) (by rfl) H3.out.ev rfl (evt_one _) ?_)
                                go_meet
                                case rel =>
                                  rw [HFN.out]
                                  exact H3.out.row HWB.out hne _
                              · have g13 : (s0.toList == [80, 69, 78, 65, 76, 84, 89]) = false := by rw [← HS0.out]; exact str_no q13
                                by_cases q14 : w0 = [82, 69, 86, 73, 69, 87]
                                · have g14 : (s0.toList == [82, 69, 86, 73, 69, 87]) = true := by rw [← HS0.out]; exact str_yes q14
                                  obtain ⟨n0, hn0⟩ : ∃ y, numF ws 1 = y := ⟨_, rfl⟩
                                  have HN0 := Lib.hid hn0
                                  clear hn0
                                  obtain ⟨x1, hx1⟩ : ∃ y, wordF ws 2 = y := ⟨_, rfl⟩
                                  have HX1 := Lib.hid hx1
                                  clear hx1
                                  obtain ⟨sx1, hsx1⟩ : ∃ y, sA x1 = y := ⟨_, rfl⟩
                                  have HSX1 := Lib.hid hsx1
                                  clear hsx1
                                  obtain ⟨y1, hy1⟩ : ∃ y, decide (x1 = [75, 69, 80, 84]) = y := ⟨_, rfl⟩
                                  have gy1 : (sx1.toList == [75, 69, 80, 84]) = y1 := by rw [← hy1, ← HSX1.out]; exact str_dec _ _
                                  have HY1 := Lib.hid hy1
                                  clear hy1
                                  have HFN := Lib.hid (show R = ⟨14, n0, 0, 0, y1, 0, 0, zeroD⟩ by
                                    rw [← HR.out, guessG]
                                    rw [HW0.out, if_neg q0, if_neg q1, if_neg q2, if_neg q3, if_neg (fun q => q.elim q4 q5), if_neg q6, if_neg q7, if_neg q8, if_neg q9, if_neg q10, if_neg q11, if_neg q12, if_neg q13, if_pos q14]
                                    rw [← HN0.out, ← HY1.out, ← HX1.out])
                                  clear q0 q1 q2 q3 q4 q5 q6 q7 q8 q9 q10 q11 q12 q13 q14
                                  go_wp2_with (fail)
                                  have hcall := number8_r ws A c 1 w1 HLW.out (by decide) HZ.out (HRD.out.to H1.out.bl)
                                  rw [HN0.out] at hcall
                                  refine hcall.mono ?_
                                  clear hcall
                                  rintro e wq0 ⟨rfl, hbq0⟩
                                  have H2 := Lib.hid (H1.out.to hbq0)
                                  clear hbq0
                                  go_wp2_with (fail)
                                  have hcall := word8_r ws A c 2 wq0 HLW.out (by decide) (HRD.out.to H2.out.bl)
                                  rw [HX1.out, HSX1.out] at hcall
                                  refine hcall.mono ?_
                                  clear hcall
                                  rintro e wz ⟨rfl, rfl⟩
                                  go_wp2_with (refine wpList_storeC rfl _ _ 29 rfl b 29 (evE zeroE) (evE ⟨14, n0, 0, 0, y1, 0, 0, zeroD⟩).toArray evt_info (by rfl) (by rfl) H2.out.ev rfl (evt_one _) ?_)
                                  go_meet
                                  case rel =>
                                    rw [HFN.out]
                                    exact H2.out.row HWB.out hne _
                                · have g14 : (s0.toList == [82, 69, 86, 73, 69, 87]) = false := by rw [← HS0.out]; exact str_no q14
                                  by_cases q15 : w0 = [82, 69, 86, 73, 83, 69]
                                  · have g15 : (s0.toList == [82, 69, 86, 73, 83, 69]) = true := by rw [← HS0.out]; exact str_yes q15
                                    obtain ⟨n0, hn0⟩ : ∃ y, numF ws 1 = y := ⟨_, rfl⟩
                                    have HN0 := Lib.hid hn0
                                    clear hn0
                                    obtain ⟨n1, hn1⟩ : ∃ y, numF ws 2 = y := ⟨_, rfl⟩
                                    have HN1 := Lib.hid hn1
                                    clear hn1
                                    have HFN := Lib.hid (show R = ⟨15, 0, 0, 0, false, n0, n1, zeroD⟩ by
                                      rw [← HR.out, guessG]
                                      rw [HW0.out, if_neg q0, if_neg q1, if_neg q2, if_neg q3, if_neg (fun q => q.elim q4 q5), if_neg q6, if_neg q7, if_neg q8, if_neg q9, if_neg q10, if_neg q11, if_neg q12, if_neg q13, if_neg q14, if_pos q15]
                                      rw [← HN0.out, ← HN1.out])
                                    clear q0 q1 q2 q3 q4 q5 q6 q7 q8 q9 q10 q11 q12 q13 q14 q15
                                    go_wp2_with (fail)
                                    have hcall := number8_r ws A c 1 w1 HLW.out (by decide) HZ.out (HRD.out.to H1.out.bl)
                                    rw [HN0.out] at hcall
                                    refine hcall.mono ?_
                                    clear hcall
                                    rintro e wq0 ⟨rfl, hbq0⟩
                                    have H2 := Lib.hid (H1.out.to hbq0)
                                    clear hbq0
                                    go_wp2_with (fail)
                                    have hcall := number8_r ws A c 2 wq0 HLW.out (by decide) HZ.out (HRD.out.to H2.out.bl)
                                    rw [HN1.out] at hcall
                                    refine hcall.mono ?_
                                    clear hcall
                                    rintro e wq1 ⟨rfl, hbq1⟩
                                    have H3 := Lib.hid (H2.out.to hbq1)
                                    clear hbq1
                                    go_wp2_with (refine wpList_storeC rfl _ _ 29 rfl b 29 (evE zeroE) (evE ⟨15, 0, 0, 0, false, n0, n1, zeroD⟩).toArray evt_info (by rfl) (by rfl) H3.out.ev rfl (evt_one _) ?_)
                                    go_meet
                                    case rel =>
                                      rw [HFN.out]
                                      exact H3.out.row HWB.out hne _
                                  · have g15 : (s0.toList == [82, 69, 86, 73, 83, 69]) = false := by rw [← HS0.out]; exact str_no q15
                                    by_cases q16 : w0 = [83, 84, 79, 80]
                                    · have g16 : (s0.toList == [83, 84, 79, 80]) = true := by rw [← HS0.out]; exact str_yes q16
                                      have HFN := Lib.hid (show R = ⟨16, 0, 0, 0, false, 0, 0, zeroD⟩ by
                                        rw [← HR.out, guessG]
                                        rw [HW0.out, if_neg q0, if_neg q1, if_neg q2, if_neg q3, if_neg (fun q => q.elim q4 q5), if_neg q6, if_neg q7, if_neg q8, if_neg q9, if_neg q10, if_neg q11, if_neg q12, if_neg q13, if_neg q14, if_neg q15, if_pos q16]
                                        skip)
                                      clear q0 q1 q2 q3 q4 q5 q6 q7 q8 q9 q10 q11 q12 q13 q14 q15 q16
                                      go_wp2_with (refine wpList_storeC rfl _ _ 29 rfl b 29 (evE zeroE) (evE ⟨16, 0, 0, 0, false, 0, 0, zeroD⟩).toArray evt_info (by rfl) (by rfl) H1.out.ev rfl (evt_one _) ?_)
                                      go_meet
                                      case rel =>
                                        rw [HFN.out]
                                        exact H1.out.row HWB.out hne _
                                    · have g16 : (s0.toList == [83, 84, 79, 80]) = false := by rw [← HS0.out]; exact str_no q16
                                      have HFN := Lib.hid (show R = zeroE by
                                        rw [← HR.out, guessG]
                                        rw [HW0.out, if_neg q0, if_neg q1, if_neg q2, if_neg q3, if_neg (fun q => q.elim q4 q5), if_neg q6, if_neg q7, if_neg q8, if_neg q9, if_neg q10, if_neg q11, if_neg q12, if_neg q13, if_neg q14, if_neg q15, if_neg q16])
                                      clear q0 q1 q2 q3 q4 q5 q6 q7 q8 q9 q10 q11 q12 q13 q14 q15 q16
                                      go_wp2_with (fail)
                                      go_meet
                                      case rel => rw [HFN.out]; exact H1.out
  case rest =>
  have H9 := Lib.hid hcut
  clear hcut
  go_wp2_with (first | (refine wpList_loadC rfl _ 29 rfl b 29 (evE R) _ rfl (by rfl) (by rfl) (by rfl) H9.out.ev ?_) | (refine wpList_storeC rfl _ _ 29 rfl h 29 (evE zeroE) (evE R).toArray evt_info (by rfl) (by rfl) H9.out.zr rfl (evt_one _) ?_))
  refine ret_cell (g := h) (e := 29) (xs := (evE R).toArray.toList) rfl (by rfl) (blk_row H9.out.zr _) rfl (by rfl) (by rfl) rfl ?_
  exact ⟨rfl, row_below H9.out.bl (Nat.le_of_eq HHH.out) _⟩
end

section
/-! Chapter 8: Parse of the reference. -/
open Go.RowKit
set_option maxRecDepth 100000
set_option maxHeartbeats 4000000
theorem splC_len : ∀ l : List UInt8, (splitC 32 l).length ≤ l.length + 1 ∧ ∀ x ∈ splitC 32 l, x.length ≤ l.length
  | [] => by simp [splitC]
  | x :: r => by
    obtain ⟨h1, h2⟩ := splC_len r
    unfold splitC
    split
    · refine ⟨by simp; omega, fun y hy => ?_⟩
      rcases List.mem_cons.1 hy with rfl | hy
      · simp
      · have := h2 y hy; simp; omega
    · split
      · simp
      · next w ws he =>
        rw [he] at h1 h2
        refine ⟨by simp at h1 ⊢; omega, fun y hy => ?_⟩
        rcases List.mem_cons.1 hy with rfl | hy
        · have := h2 w List.mem_cons_self; simp; omega
        · have := h2 y (List.mem_cons_of_mem _ hy); simp; omega
theorem fieldsS_len (l : List UInt8) : (fieldsS l).length ≤ l.length + 1 ∧ ∀ x ∈ fieldsS l, x.length ≤ l.length := by
  unfold fieldsS
  split
  · simp
  · exact splC_len l
theorem guessF_ball (ws : List (List UInt8)) : 0 ≤ (guessF ws).ball.src ∧ 0 ≤ (guessF ws).ball.how := by
  have key : ∀ x : List UInt8, 0 ≤ (parD (guessR x) x).1.src ∧ 0 ≤ (parD (guessR x) x).1.how := fun x => by
    unfold parD
    split
    · exact ⟨guessR_src x, (guessR_how x).1⟩
    · exact ⟨by decide, by decide⟩
  rw [guessG]
  have z : 0 ≤ zeroD.src ∧ 0 ≤ zeroD.how := ⟨by decide, by decide⟩
  have step : ∀ (c : Prop) [Decidable c] (a b : Ev), (0 ≤ a.ball.src ∧ 0 ≤ a.ball.how) → (0 ≤ b.ball.src ∧ 0 ≤ b.ball.how) → 0 ≤ (if c then a else b).ball.src ∧ 0 ≤ (if c then a else b).ball.how := fun c _ a b ha hb => by split <;> assumption
  exact step _ _ _ z (step _ _ _ z (step _ _ _ z (step _ _ _ (key _) (step _ _ _ z (step _ _ _ z (step _ _ _ z (step _ _ _ z (step _ _ _ z (step _ _ _ z (step _ _ _ z (step _ _ _ z (step _ _ _ z (step _ _ _ z (step _ _ _ z (step _ _ _ z z)))))))))))))))
theorem parse8_r (l : List UInt8) (hl : l.length ≤ 1000000) (w : World) : Calls Tryz.prog 15 #[.string (sA l)] w fun e w' => e = .returned (.tuple #[evV (parE (some (guessF (fieldsS l))) l).1, .int .i64 (parE (some (guessF (fieldsS l))) l).2]) ∧ Below w.heap.size w w' := by
  have HG := Lib.hid (guessF_ball (fieldsS l))
  have hcf := fun w => fields7_r l hl w
  obtain ⟨ws, hws⟩ : ∃ y, fieldsS l = y := ⟨_, rfl⟩
  obtain ⟨fl1, fl2⟩ := fieldsS_len l
  rw [hws] at fl1 fl2
  have HFL := Lib.hid (show ws.length ≤ 1000001 by omega)
  have HFZ := Lib.hid (show ∀ x ∈ ws, x.length ≤ 1000000 from fun x hx => Nat.le_trans (fl2 x hx) hl)
  simp only [hws] at hcf
  obtain ⟨G, hG⟩ : ∃ G, guessF ws = G := ⟨_, rfl⟩
  rw [hws, hG] at HG
  rw [hws, hG]
  have HGW := Lib.hid hG
  obtain ⟨sl, hsl⟩ : ∃ y, sA l = y := ⟨_, rfl⟩
  rw [hsl]
  simp only [hsl] at hcf
  have HSL := Lib.hid hsl
  have HCF := Lib.hid hcf
  clear hsl hG hl hcf hws fl1 fl2
  obtain ⟨W0, hW0⟩ : ∃ y, w.alloc (.cells (evE zeroE).toArray 29) = y := ⟨_, rfl⟩
  have HZ := Lib.hid (show Blk W0 w.heap.size 29 (evE zeroE) by rw [← hW0]; exact Blk.new w _ _)
  have HB0 := Lib.hid (show Below w.heap.size w W0 by rw [← hW0]; exact cur_new w _)
  have S0 := Lib.hid (show w.alloc (.cells #[.int .u8 0, .int .i64 0, .int .i64 0, .int .i64 0, .bool false, .int .i64 0, .int .i64 0, .int .u8 0, .int .u8 0, .int .i64 0, .int .i64 0, .int .i64 0, .bool false, .int .u8 0, .int .i64 0, .int .i64 0, .int .i64 0, .bool false, .int .i64 0] 29) = W0 from hW0)
  clear hW0
  go_enter Tryz.func15, Tryz.ntmps15
  go_wp2_with (rw [S0.out])
  refine (HCF.out W0).mono ?_
  rintro e w0 ⟨A, c, rfl, hown, hb0⟩
  have HRD := Lib.hid (show Rd stE 1 w0 w0.heap.size A ws by
    obtain ⟨A', c', e2, h, _⟩ := OwnL.rd stE_len hown
    injection e2 with e2 _ _
    rw [e2]; exact h)
  have HB00 := Lib.hid hb0
  clear hown hb0
  go_wp2_with (fail)
  have hcall := guess8_r ws A c w0 (by have := HFL.out; omega) HFZ.out HRD.out
  rw [HGW.out] at hcall
  refine hcall.mono ?_
  clear hcall
  rintro e w1 ⟨rfl, hb1⟩
  have hb1 := cur_step1 HB00.out hb1
  obtain ⟨wc, hwc⟩ : ∃ y, w1.alloc (.cells (evE G).toArray 29) = y := ⟨_, rfl⟩
  have HDL := Lib.hid (show Blk wc w1.heap.size 29 (evE G) by rw [← hwc]; exact Blk.new w1 _ _)
  have HZZ := Lib.hid (show Blk wc w.heap.size 29 (evE zeroE) by rw [← hwc]; exact (HZ.out.to hb1).to (cur_new _ _))
  have HBW := Lib.hid (show Below w.heap.size w wc by rw [← hwc]; exact cur_step1 (cur_step1 HB0.out hb1) (cur_new _ _))
  have SWC := Lib.hid hwc
  obtain ⟨h, hh⟩ : ∃ h, w1.heap.size = h := ⟨_, rfl⟩
  rw [hh] at HDL
  have HHH := Lib.hid hh
  clear hwc hb1 hh
  go_wp2_with (first | (refine wpList_storeNew rfl _ _ 29 rfl _ (evE G).toArray evt_info (by rfl) (by rfl) rfl (evt_one _) ?_; rw [SWC.out, HHH.out]) | (refine wpList_loadC rfl _ 29 rfl h 29 (evE G) _ rfl (by rfl) (by rfl) (by rfl) HDL.out ?_))
  refine (textr8 G HG.out.2 wc).mono ?_
  rintro e w26 ⟨rfl, hb26⟩
  have HDL2 := Lib.hid (HDL.out.to hb26)
  have HZZ2 := Lib.hid (HZZ.out.to hb26)
  have HBW2 := Lib.hid (cur_step1 HBW.out hb26)
  clear hb26
  by_cases hc : chkE G = 0
  · have HT := Lib.hid (show TxtE G = (txtE G, 0) by unfold TxtE; rw [if_neg (by simpa using hc)])
    have HC := Lib.hid hc
    rw [HT.out]
    dsimp only
    clear hc
    obtain ⟨tS, htS⟩ : ∃ y, sA (txtE G) = y := ⟨_, rfl⟩
    rw [htS]
    have NtS := Lib.hid htS
    clear htS
    by_cases hp : txtE G = l
    · have g1 : (tS.toList == sl.toList) = true := by rw [← NtS.out, ← HSL.out, hp]; simp
      have HP := Lib.hid (show parE (some G) l = (G, 0) by unfold parE; dsimp only; rw [if_pos ⟨HC.out, hp⟩])
      clear hp
      go_wp2_with (first | (refine wpList_loadC rfl _ 29 rfl h 29 (evE G) _ rfl (by rfl) (by rfl) (by rfl) HDL2.out ?_) | (refine wpList_storeC rfl _ _ 29 rfl w.heap.size 29 (evE zeroE) (evE G).toArray evt_info (by rfl) (by rfl) HZZ2.out rfl (evt_one _) ?_))
      refine ret_cell2 (g := w.heap.size) (e := 29) (xs := (evE G).toArray.toList) rfl (by rfl) (by rfl) (blk_row HZZ2.out _) rfl (by rfl) (by rfl) rfl ?_
      rw [HP.out]
      exact ⟨rfl, row_below HBW2.out (Nat.le_refl _) _⟩
    · have g1 : (tS.toList == sl.toList) = false := by
        rw [← NtS.out, ← HSL.out]
        simp only [beq_eq_false_iff_ne, ne_eq]
        intro he
        apply hp
        rw [sA_to, sA_to] at he
        exact he
      have HP := Lib.hid (show parE (some G) l = (zeroE, 4) by unfold parE; dsimp only; rw [if_neg (fun q => hp q.2)])
      clear hp
      go_wp2_with (first | (refine wpList_storeC rfl _ _ 29 rfl w.heap.size 29 (evE zeroE) (evE zeroE).toArray evt_info (by rfl) (by rfl) HZZ2.out rfl (evt_one _) ?_))
      refine ret_cell2 (g := w.heap.size) (e := 29) (xs := (evE zeroE).toArray.toList) rfl (by rfl) (by rfl) (blk_row HZZ2.out _) rfl (by rfl) (by rfl) rfl ?_
      rw [HP.out]
      exact ⟨rfl, row_below HBW2.out (Nat.le_refl _) _⟩
  · obtain ⟨v, hv⟩ : ∃ v, chkE G = v := ⟨_, rfl⟩
    have HT := Lib.hid (show TxtE G = ([], v) by unfold TxtE; rw [if_pos hc, hv])
    have g1 : (v != 0) = true := by rw [← hv]; simpa using hc
    have HP := Lib.hid (show parE (some G) l = (zeroE, 4) by unfold parE; dsimp only; rw [if_neg (fun q => hc q.1)])
    rw [HT.out]
    dsimp only
    generalize sA [] = s9
    clear hc hv
    go_wp2_with (first | (refine wpList_storeC rfl _ _ 29 rfl w.heap.size 29 (evE zeroE) (evE zeroE).toArray evt_info (by rfl) (by rfl) HZZ2.out rfl (evt_one _) ?_))
    refine ret_cell2 (g := w.heap.size) (e := 29) (xs := (evE zeroE).toArray.toList) rfl (by rfl) (by rfl) (blk_row HZZ2.out _) rfl (by rfl) (by rfl) rfl ?_
    rw [HP.out]
    exact ⟨rfl, row_below HBW2.out (Nat.le_refl _) _⟩
end

section
/-! Chapter 8: ParseLog of the reference. -/
open Go.RowKit
set_option maxRecDepth 100000
set_option maxHeartbeats 8000000
theorem joinS_snoc : ∀ (l : List (List UInt8)) (t : List UInt8), joinS (l ++ [t]) = if l = [] then t else joinS l ++ 32 :: t
  | [], t => by simp [joinS]
  | [a], t => by simp [joinS]
  | a :: b :: r, t => by
    have ih := joinS_snoc (b :: r) t
    rw [if_neg (by simp)] at ih
    have e1 : joinS (a :: b :: r ++ [t]) = a ++ 32 :: joinS (b :: r ++ [t]) := rfl
    have e2 : joinS (a :: b :: r) = a ++ 32 :: joinS (b :: r) := rfl
    rw [if_neg (by simp), e1, ih, e2]
    simp
theorem parS_refl8 (l : List UInt8) : parE (some (guessF (fieldsS l))) l = parS l := by
  unfold parS
  refine (parE_eq (fun g hg => ?_) (guessF_ball _)).symm
  cases hsp : splitC 32 l with
  | nil => exact absurd hsp (splitC_ne 32 l)
  | cons w0 ws =>
    rw [hsp, guess_is] at hg
    unfold gsK at hg
    split at hg
    · cases hg
    · split at hg
      · cases hg
      · injection hg with hg
        rw [← hg]
        exact And.symm (takeAll_ball _ _ _ _ ⟨Int.le_refl 0, Int.le_refl 0⟩)
def JnR (fs : List Fld) (w : World) (sv qv iv : Value) (wr : World) : Prop := ∃ j : Nat, j ≤ fs.length ∧ iv = .int .i64 j ∧ sv = .string (sA (joinS ((fs.take j).map (·.text)))) ∧ qv = .bool ((fs.take j).any (·.quoted)) ∧ Below w.heap.size w wr
def LgQ (rs : List Lr) (w2 : World) (dv lv iv : Value) (wr : World) : Prop := ∃ (k : Nat) (es : List Ev) (A : Option Addr) (c : Nat) (dl : List Dg) (B : Option Addr) (cb : Nat), k ≤ rs.length ∧ iv = .int .i64 k ∧ lv = .slice A es.length c ∧ dv = .slice B dl.length cb ∧ es.length ≤ k ∧ dl.length ≤ k ∧ (dl = [] → es.length = k) ∧
  EgS w2.heap.size wr A c es B cb dl ∧ ((rs.map Lr.lin).take k).foldl plStep ([], []) = (es, dl) ∧ Below w2.heap.size w2 wr
theorem linP_tot {s : List UInt8} : totF (linP s).1 ≤ 2000 := by
  unfold linP
  split
  · have := fieldsP_tot s; dsimp only; omega
  · simp [totF]
theorem splF_tot : ∀ (l : List (List UInt8)) (i : Nat) (a : List Lin × List Dg), (∀ x ∈ a.1, totF x.fs ≤ 2000) → ∀ x ∈ (splF i a l).1, totF x.fs ≤ 2000
  | [], _, _, h => h
  | s :: r, i, a, h => by
    refine splF_tot r (i + 1) (splStep a i s) (fun x hx => ?_)
    unfold splStep at hx
    split at hx
    · exact h x hx
    split at hx
    · rcases List.mem_append.1 hx with hx | hx
      · exact h x hx
      · simp at hx; subst hx; exact linP_tot
    · exact h x hx
theorem splitP_tot (src : List UInt8) : ∀ x ∈ (splitP src).1, totF x.fs ≤ 2000 := by
  unfold splitP
  split
  · simp
  · exact splF_tot _ _ _ (by simp)
theorem totF_take (fs : List Fld) (j : Nat) : totF (fs.take j) ≤ totF fs := by
  have h : totF fs = totF (fs.take j) + totF (fs.drop j) := by
    conv => lhs; rw [← List.take_append_drop j fs]
    unfold totF
    rw [List.map_append, List.sum_append]
  omega
theorem parlog_r (l : List UInt8) (hl : l.length ≤ 1000000) (w : World) : Calls Tryz.prog 20 #[.string (sA l)] w fun e w' => ∃ A c B cb, e = .returned (.tuple #[.slice A (ParLogP l).1.length c, .slice B (ParLogP l).2.length cb]) ∧ Rd evE 19 w' w'.heap.size A (ParLogP l).1 ∧ Rd dgE 3 w' w'.heap.size B (ParLogP l).2 ∧ Below w.heap.size w w' := by
  obtain ⟨R, hR⟩ : ∃ R, ParLogP l = R := ⟨_, rfl⟩
  rw [hR]
  obtain ⟨S, hS⟩ : ∃ S, splitP l = S := ⟨_, rfl⟩
  have hok : ∀ x ∈ S.1, LinOk x := by rw [← hS]; exact splitP_ok l
  have hlen : S.1.length ≤ 262145 := by
    rw [← hS]
    unfold splitP
    split
    · simp
    · have h1 := splF_len (splitC 10 l) 0 ([], [])
      have h2 := splitC_len 10 l
      simp only [List.length_nil] at h1
      omega
  have HR := Lib.hid (show R = if S.2 ≠ [] then ([], S.2) else if (S.1.foldl plStep ([], [])).2 ≠ [] then ([], (S.1.foldl plStep ([], [])).2) else if 4000 < (S.1.foldl plStep ([], [])).1.length then ([], [⟨1, 1, 9⟩]) else ((S.1.foldl plStep ([], [])).1, []) by rw [← hR, ← hS]; rfl)
  have hsp := split3_r l hl w
  have htt : ∀ x ∈ S.1, totF x.fs ≤ 2000 := by rw [← hS]; exact splitP_tot l
  rw [hS] at hsp
  have HSP := Lib.hid hsp
  have HTT := Lib.hid htt
  have HOK := Lib.hid hok
  obtain ⟨s, hs⟩ : ∃ s, sA l = s := ⟨_, rfl⟩
  rw [hs] at HSP ⊢
  clear hR hS hok hsp hs htt
  obtain ⟨S1, S2⟩ := S
  dsimp only at HR HSP hlen HOK HTT
  go_enter Tryz.func20, Tryz.ntmps20
  go_wp2_with (fail)
  refine HSP.out.mono ?_
  rintro e w2 ⟨A0, c0, rs, B0, cb0, dl0, rfl, hsps, hd5, rfl, hb2⟩
  have HD5 := Lib.hid hd5
  clear hd5
  have HS2 := Lib.hid hsps
  have HB2 := Lib.hid hb2
  clear hsps hb2
  by_cases hd0 : S2 = []
  case neg =>
    have hdl : 0 < S2.length := List.length_pos_iff.2 hd0
    have HRR := Lib.hid (show R = ([], S2) by rw [HR.out, if_pos hd0])
    clear hd0
    go_wp2_with (fail)
    go_ret2
    rw [HRR.out]
    have hrd := OwnL.rd dgE_len HS2.out.dg
    obtain ⟨A', c', e2, h, _⟩ := hrd
    injection e2 with e2 _ _
    subst e2
    exact ⟨none, 0, B0, cb0, rfl, Rd.nil_, by show Rd dgE 3 w2 w2.heap.size B0 S2; rw [← HD5.out]; exact h.pre 50, HB2.out⟩
  subst hd0
  have hdl0 : dl0 = [] := by have := HD5.out; cases dl0 with | nil => rfl | cons a b => simp at this
  subst hdl0
  obtain ⟨hB0, hcb0⟩ := HS2.out.nil rfl
  subst hB0 hcb0
  have HRR := Lib.hid (show R = if ((rs.map Lr.lin).foldl plStep ([], [])).2 ≠ [] then ([], ((rs.map Lr.lin).foldl plStep ([], [])).2) else if 4000 < ((rs.map Lr.lin).foldl plStep ([], [])).1.length then ([], [⟨1, 1, 9⟩]) else (((rs.map Lr.lin).foldl plStep ([], [])).1, []) by rw [HR.out, if_neg (by simp)])
  have hrl : rs.length ≤ 262145 := by simpa using hlen
  have HRO := Lib.hid (OwnL.rd lrE_len HS2.out.tab.own)
  clear HR hlen HSP
  go_wp2_with (fail)
  go_loopw [5, 6, 26] (LgQ rs w2) (fun _ _ i _ => rs.length - (intOf i).toNat)
  case atStart => exact ⟨0, [], none, 0, [], none, 0, by omega, rfl, rfl, rfl, by simp, by simp, fun _ => rfl, EgS.start _ _, rfl, Below.refl _ _⟩
  case round =>
    obtain ⟨k, es, A, c, dl, B, cb, hk, rfl, rfl, rfl, hel, hdl, hel0, hS, hsp, hb⟩ := hrel
    have HS := Lib.hid hS
    have HE0 := Lib.hid hel0
    clear hel0
    have HSPK := Lib.hid hsp
    have HB := Lib.hid hb
    clear hS hsp hb
    by_cases hkl : k < rs.length
    · obtain ⟨x, hx⟩ : ∃ x, rs[k]? = some x := ⟨_, List.getElem?_eq_getElem hkl⟩
      obtain ⟨A9, c9, e9, hrd, hz9⟩ := HRO.out
      injection e9 with e91 _ e93
      subst e91 e93
      obtain ⟨b2, off2, rfl, hb2l, hc2⟩ := hrd k x hx
      obtain rfl : off2 = 0 := (hz9 b2 off2 rfl).2
      have hxm := List.mem_of_getElem? hx
      have hrow := HS2.out.tab.rows x hxm
      obtain ⟨A8, c8, e8, hrd8, hz8⟩ := OwnL.rd flE_len hrow
      injection e8 with e81 _ e83
      subst e81 e83
      obtain ⟨num, g, gc, fs⟩ := x
      dsimp only at hrd8 hrow
      have hlo : LinOk ⟨num, fs⟩ := HOK.out _ (List.mem_map.2 ⟨_, hxm, rfl⟩)
      have HLO := Lib.hid hlo
      have HTO := Lib.hid (show totF fs ≤ 2000 from HTT.out _ (List.mem_map.2 ⟨_, hxm, rfl⟩))
      have d0 : wr.cell? ⟨b2, k * 2, none⟩ = some (.int .i64 num) := (HB.out.cell (p := ⟨b2, k * 2, none⟩) hb2l).trans (by simpa using hc2 0 _ rfl)
      have d1 : wr.cell? ⟨b2, k * 2 + 1, none⟩ = some (.slice (some ⟨g, 0, none⟩) fs.length gc) := (HB.out.cell (p := ⟨b2, k * 2 + 1, none⟩) hb2l).trans (by simpa using hc2 1 _ rfl)
      have HRD := Lib.hid (show Rd flE 3 wr wr.heap.size (some ⟨g, 0, none⟩) fs from hrd8.to HB.out)
      have HNX := Lib.hid (show ((rs.map Lr.lin).take (k + 1)).foldl plStep ([], []) = plStep (es, dl) ⟨num, fs⟩ by rw [foldl_take plStep ([], []) (rs.map Lr.lin) k ⟨num, fs⟩ (by rw [List.getElem?_map, hx]; rfl), HSPK.out])
      have HGL := Lib.hid (own_blk hrow).2
      clear hz8 hz9 hc2 hrd hrd8 hrow hlo hx hxm
      obtain ⟨W3, hW3⟩ : ∃ y, wr.alloc (.cells #[.int .i64 num, .slice (some ⟨g, 0, none⟩) fs.length gc] 97) = y := ⟨_, rfl⟩
      have HB3 := Lib.hid (show Below wr.heap.size wr W3 by rw [← hW3]; exact cur_new _ _)
      have HX3 := Lib.hid (show Blk W3 wr.heap.size 97 [.int .i64 num, .slice (some ⟨g, 0, none⟩) fs.length gc] by rw [← hW3]; exact Blk.new wr _ _)
      have q0 : W3.cell? ⟨wr.heap.size, 0, none⟩ = some (.int .i64 num) := HX3.out.cell 0
      have q1 : W3.cell? ⟨wr.heap.size, 1, none⟩ = some (.slice (some ⟨g, 0, none⟩) fs.length gc) := HX3.out.cell 1
      have S3 := Lib.hid hW3
      clear hW3
      go_wp2_with (rw [S3.out])
      go_loopw [9, 10, 33] (JnR fs W3) (fun _ _ i _ => fs.length - (intOf i).toNat)
      case atStart => exact ⟨0, by omega, rfl, rfl, rfl, Below.refl _ _⟩
      case round =>
        rename World => wi
        obtain ⟨j, hj, rfl, rfl, rfl, hbi⟩ := hrel
        have HBI := Lib.hid (cur_step1 HB3.out hbi)
        have HBW := Lib.hid hbi
        obtain ⟨ac, hac⟩ : ∃ y, joinS ((fs.take j).map (·.text)) = y := ⟨_, rfl⟩
        have haz : ac.length ≤ 2000 := by have h1 := (joinS_tot (fs.take j)).1; have h2 := totF_take fs j; have h3 := HTO.out; rw [hac] at h1; omega
        obtain ⟨sc, hsc⟩ : ∃ y, sA ac = y := ⟨_, rfl⟩
        have hscz : sc.size ≤ 2000 := by rw [← hsc, sA_sz]; exact haz
        obtain ⟨qv, hqv⟩ : ∃ y, (fs.take j).any (·.quoted) = y := ⟨_, rfl⟩
        rw [hac, hsc, hqv]
        have HAC := Lib.hid hac
        have HSC := Lib.hid hsc
        have HQV := Lib.hid hqv
        clear hbi hac hsc hqv haz
        by_cases hjl : j < fs.length
        · obtain ⟨f, hf⟩ : ∃ f, fs[j]? = some f := ⟨_, List.getElem?_eq_getElem hjl⟩
          obtain ⟨b5, off5, e5, hb5l, hc5⟩ := HRD.out j f hf
          injection e5 with e5
          injection e5 with e51 e52 _
          subst e51 e52
          obtain ⟨ft, fcol, fq⟩ := f
          have htl : ft.length ≤ 2000 := by
            have h1 := totF_take fs (j + 1)
            have h2 : fs.take (j + 1) = fs.take j ++ [⟨ft, fcol, fq⟩] := by rw [List.take_add_one, hf]; rfl
            rw [h2, totF_app] at h1
            have h3 := HTO.out
            dsimp only at h1
            omega
          obtain ⟨tf, htf⟩ : ∃ y, sA ft = y := ⟨_, rfl⟩
          have htz : tf.size ≤ 2000 := by rw [← htf, sA_sz]; exact htl
          have HTF := Lib.hid htf
          have e0 : wi.cell? ⟨g, j * 3, none⟩ = some (.string tf) := (HBI.out.cell (p := ⟨g, j * 3, none⟩) hb5l).trans (by rw [← htf]; simpa using hc5 0 _ rfl)
          have e1 : wi.cell? ⟨g, j * 3 + 1, none⟩ = some (.int .i64 fcol) := (HBI.out.cell (p := ⟨g, j * 3 + 1, none⟩) hb5l).trans (by simpa using hc5 1 _ rfl)
          have e2 : wi.cell? ⟨g, j * 3 + 2, none⟩ = some (.bool fq) := (HBI.out.cell (p := ⟨g, j * 3 + 2, none⟩) hb5l).trans (by simpa using hc5 2 _ rfl)
          have hgi : g < wi.heap.size := Nat.lt_of_lt_of_le hb5l HBI.out.size
          have HTK := Lib.hid (show fs.take (j + 1) = fs.take j ++ [⟨ft, fcol, fq⟩] by rw [List.take_add_one, hf]; rfl)
          have HQ2 := Lib.hid (show (fs.take (j + 1)).any (·.quoted) = (qv || fq) by rw [HTK.out, List.any_append, HQV.out]; simp)
          have hnw := cur_new wi (.cells #[.string tf, .int .i64 fcol, .bool fq] 101)
          have HNW := Lib.hid hnw
          have hj2 : j ≤ 1000000 := by have h1 := (joinS_tot fs).2; have := HTO.out; omega
          clear hf hc5 htf htl hb5l hnw
          by_cases hj0 : j = 0
          · have gj : decide (0 < (j : Int)) = false := by simp; omega
            have gjn : ¬ 0 < j := by omega
            have HA2 := Lib.hid (show sA (joinS ((fs.take (j + 1)).map (·.text))) = sc ++ tf by
              rw [HTK.out, List.map_append, ← HSC.out, ← HTF.out, ← HAC.out, hj0]
              show sA (joinS ([] ++ [ft])) = sA (joinS []) ++ sA ft
              rw [sA_app]
              rfl)
            have qs : (9223372036854775807 < sc.size + tf.size) = False := by simp; omega
            clear hj0
            cases qv
            · go_wp2_with (fail)
              exact ⟨⟨j + 1, by omega, rfl, by rw [HA2.out], by rw [HQ2.out]; rfl, cur_step1 HBW.out HNW.out⟩, by show fs.length - (j + 1) < fs.length - j; omega⟩
            · go_wp2_with (fail)
              exact ⟨⟨j + 1, by omega, rfl, by rw [HA2.out], by rw [HQ2.out]; rfl, cur_step1 HBW.out HNW.out⟩, by show fs.length - (j + 1) < fs.length - j; omega⟩
          · have gj : decide (0 < (j : Int)) = true := by simp; omega
            have gjn : 0 < j := by omega
            have HA2 := Lib.hid (show sA (joinS ((fs.take (j + 1)).map (·.text))) = sc ++ (⟨#[32]⟩ : ByteArray) ++ tf by
              rw [HTK.out, List.map_append, ← HSC.out, ← HTF.out, ← HAC.out]
              show sA (joinS ((fs.take j).map (·.text) ++ [ft])) = _
              rw [joinS_snoc, if_neg (by
                intro h
                have := congrArg List.length h
                simp at this
                rcases this with h | h <;> (first | omega | (subst h; simp at hjl)))]
              have k1 := sA_app (joinS ((fs.take j).map (·.text))) [32]
              have k2 := sA_app (joinS ((fs.take j).map (·.text)) ++ [32]) ft
              rw [← k1, List.append_assoc] at k2
              exact k2.symm)
            have qs : (9223372036854775807 < sc.size + 1) = False := by simp; omega
            have qs2 : (9223372036854775807 < sc.size + 1 + tf.size) = False := by simp; omega
            clear hj0
            cases qv
            · go_wp2_with (fail)
              exact ⟨⟨j + 1, by omega, rfl, by rw [HA2.out], by rw [HQ2.out]; rfl, cur_step1 HBW.out HNW.out⟩, by show fs.length - (j + 1) < fs.length - j; omega⟩
            · go_wp2_with (fail)
              exact ⟨⟨j + 1, by omega, rfl, by rw [HA2.out], by rw [HQ2.out]; rfl, cur_step1 HBW.out HNW.out⟩, by show fs.length - (j + 1) < fs.length - j; omega⟩
        · have hjn : j = fs.length := by omega
          have HJS := Lib.hid (show joinS (fs.map (·.text)) = ac by rw [← HAC.out, hjn, List.take_length])
          have HQF := Lib.hid (show fs.any (·.quoted) = qv by rw [← HQV.out, hjn, List.take_length])
          have haz : ac.length ≤ 2000 := by have h1 := HSC.out; rw [← h1, sA_sz] at hscz; exact hscz
          clear hjn d0 d1 q0 q1
          go_wp2_with (fail)
          have hcall := parse8_r ac (by omega) wi
          rw [HSC.out, parS_refl8] at hcall
          refine hcall.mono ?_
          clear hcall
          rintro e w5 ⟨rfl, hb5⟩
          obtain ⟨P, hP⟩ : ∃ P, parS ac = P := ⟨_, rfl⟩
          rw [hP]
          obtain ⟨X, er⟩ := P
          dsimp only
          have HP := Lib.hid hP
          have HB5 := Lib.hid (cur_step1 HBI.out hb5)
          have HX5 := Lib.hid ((HX3.out.to HBW.out).to hb5)
          clear hb5 hP
          obtain ⟨W6, hW6⟩ : ∃ y, w5.alloc (.cells (evE X).toArray 29) = y := ⟨_, rfl⟩
          have S6 := Lib.hid hW6
          have HB6 := Lib.hid (show Below wr.heap.size wr W6 by rw [← hW6]; exact cur_step1 HB5.out (cur_new w5 _))
          have HX6 := Lib.hid (show Blk W6 wr.heap.size 97 [.int .i64 num, .slice (some ⟨g, 0, none⟩) fs.length gc] by rw [← hW6]; exact HX5.out.to (cur_new w5 _))
          have HE6 := Lib.hid (show Blk W6 w5.heap.size 29 (evE X) by rw [← hW6]; exact Blk.new w5 _ _)
          have HRD6 := Lib.hid (show Rd flE 3 W6 W6.heap.size (some ⟨g, 0, none⟩) fs from HRD.out.to HB6.out)
          clear hW6
          have HCD := Lib.hid (show plStep (es, dl) ⟨num, fs⟩ = if qv = true ∨ er ≠ 0 then (if dl.length < 50 then (es, dl ++ [⟨num, colL ⟨num, fs⟩, 4⟩]) else (es, dl)) else (es ++ [X], dl) by
            unfold plStep joinF
            dsimp only
            rw [HQF.out, HJS.out]
            cases qv
            · simp only [Bool.false_eq_true, if_false]
              show (if true = false ∨ (parS ac).2 ≠ 0 then _ else (es ++ [(parS ac).1], dl)) = _
              rw [HP.out]
              simp
            · simp)
          have HN2 := Lib.hid (show ((rs.map Lr.lin).take (k + 1)).foldl plStep ([], []) = if qv = true ∨ er ≠ 0 then (if dl.length < 50 then (es, dl ++ [⟨num, colL ⟨num, fs⟩, 4⟩]) else (es, dl)) else (es ++ [X], dl) by rw [HNX.out, HCD.out])
          have HLE := Lib.hid (show es.length ≤ 262145 by omega)
          go_upto_region 18 with (refine wpList_storeNew rfl _ _ 29 rfl _ (evE X).toArray evt_info (by rfl) (by rfl) rfl (evt_one _) ?_; rw [S6.out])
          by_cases hgood : qv = false ∧ er = 0
          · obtain ⟨rfl, rfl⟩ := hgood
            have HN3 := Lib.hid (show ((rs.map Lr.lin).take (k + 1)).foldl plStep ([], []) = (es ++ [X], dl) by rw [HN2.out, if_neg (by simp)])
            go_upto_region 21 with (fail)
            refine wp_region_lit ?_
            refine wpList_step (fun K hK => ?_)
            go_simp
            refine hK _ _ ?_
            clear hK K
            refine wpList_loadC rfl _ 29 rfl w5.heap.size 29 [.int .u8 X.kind, .int .i64 X.side, .int .i64 X.player, .int .i64 X.other, .bool X.yes, .int .i64 X.runs, .int .i64 X.overs, .int .u8 X.ball.ty, .int .u8 X.ball.src, .int .i64 X.ball.runs, .int .i64 X.ball.short, .int .i64 X.ball.bd, .bool X.ball.cr, .int .u8 X.ball.how, .int .i64 X.ball.vic, .int .i64 X.ball.fd, .int .i64 X.ball.sd, .bool X.ball.sub, .int .i64 X.ball.sec] _ rfl (by rfl) (by rfl) (by rfl) HE6.out ?_
            refine wpList_step (fun K hK => ?_)
            go_simp
            refine hK _ _ ?_
            clear hK K
            refine wpList_app1 Tryz.evElem _ rfl (.tmp 76) (.tmp 78) rfl w2.heap.size A c es rfl ?o1 X W6.heap.size 1 rfl ?o2 ?o3 ?o4 ?o5 ?_
            case o1 => exact World.ownsRow.alloc (HS.out.to HB6.out).ev _
            case o2 => first | exact heap_alloc_new _ _ | exact (Array.getElem?_eq_some_iff.1 (heap_alloc_new _ _)).2
            case o3 => have := HLE.out; unfold maxLen; omega
            case o4 => have := HLE.out; omega
            case o5 => have := (cur_step1 HB.out HB6.out).size; first | omega | (simp; omega)
            intro g2 cap w8 ha
            have hb8 := (app1_end (cur_step1 HB.out HB6.out) (own_base HS.out.ev) (cur_new _ _) ha).1
            have hs8 := HS.out.evt (cur_step1 HB6.out (cur_new _ _)) ha
            have HB8 := Lib.hid hb8
            have HS8 := Lib.hid hs8
            clear ha hb8 hs8
            go_wp2_with (fail)
            exact ⟨⟨k + 1, es ++ [X], some ⟨g2, 0, none⟩, cap, dl, B, cb, by omega, rfl, by simp, rfl, by simp; omega, by omega, fun e => by have := HE0.out e; simp; exact this, HS8.out, HN3.out, HB8.out⟩, by show rs.length - (k + 1) < rs.length - k; omega⟩
          · have hbad : qv = true ∨ er ≠ 0 := by
              cases qv
              · exact .inr fun e => hgood ⟨rfl, e⟩
              · exact .inl rfl
            have HN4 := Lib.hid (show ((rs.map Lr.lin).take (k + 1)).foldl plStep ([], []) = if dl.length < 50 then (es, dl ++ [⟨num, colL ⟨num, fs⟩, 4⟩]) else (es, dl) by rw [HN2.out, if_pos hbad])
            have HBAD := Lib.hid hbad
            clear hgood hbad
            obtain ⟨f9, fr9, hfs⟩ : ∃ f9 fr9, fs = f9 :: fr9 := by cases fs with | nil => exact absurd rfl HLO.out.1 | cons a b => exact ⟨a, b, rfl⟩
            obtain ⟨ft, fcol, fqq⟩ := f9
            have HCOL := Lib.hid (show colL ⟨num, fs⟩ = fcol by rw [hfs]; rfl)
            have hfl0 : (0 : Int) < fs.length := by have := congrArg List.length hfs; simp at this; omega
            have hfl1 : 0 < fs.length := by omega
            have q0 : W6.cell? ⟨wr.heap.size, 0, none⟩ = some (.int .i64 num) := HX6.out.cell 0
            have q1 : W6.cell? ⟨wr.heap.size, 1, none⟩ = some (.slice (some ⟨g, 0, none⟩) fs.length gc) := HX6.out.cell 1
            have q2 : W6.cell? ⟨g, 1, none⟩ = some (.int .i64 fcol) := by
              obtain ⟨b3, off3, e3, _, hc3⟩ := HRD6.out 0 _ (by rw [hfs]; rfl)
              injection e3 with e3
              injection e3 with e31 e32 _
              subst e31 e32
              simpa using hc3 1 _ rfl
            obtain ⟨W7, hW7⟩ : ∃ y, W6.drew = y := ⟨_, rfl⟩
            have HB7 := Lib.hid (show Below wr.heap.size wr W7 by rw [← hW7]; exact HB6.out.drew)
            have SW7 := Lib.hid hW7
            have HFS := Lib.hid hfs
            clear hfs hW7
            cases qv
            · have ger : (er != 0) = true := by rcases HBAD.out with h | h <;> first | (cases h; done) | (simpa using h)
              by_cases hd50 : dl.length < 50
              · have g5 : decide ((dl.length : Int) < 50) = true := by simp; omega
                have HN3 := Lib.hid (show ((rs.map Lr.lin).take (k + 1)).foldl plStep ([], []) = (es, dl ++ [⟨num, fcol, 4⟩]) by rw [HN4.out, if_pos hd50, HCOL.out])
                go_wp2_with (fail)
                have ol := World.ownsRow.lt HS.out.dg
                have n1 : (Value.slice B dl.length cb).ownBlock ≠ some wr.heap.size := fun e => by have := ol _ e; omega
                have n2 : (Value.slice B dl.length cb).ownBlock ≠ some g := fun e => by have := ol _ e; have := HGL.out; omega
                have hw26 : w2.heap.size ≤ W6.heap.size := Nat.le_trans HB.out.size HB6.out.size
                have hx6 := HX6.out.lt
                have hg6 : g < W6.heap.size := Nat.lt_of_lt_of_le HGL.out hw26
                clear ol
                go_region_held3 (fun w' => w'.cell? ⟨wr.heap.size, 0, none⟩ = some (.int .i64 num) ∧ w'.cell? ⟨wr.heap.size, 1, none⟩ = some (.slice (some ⟨g, 0, none⟩) fs.length gc) ∧ w'.cell? ⟨g, 1, none⟩ = some (.int .i64 fcol))
                  (first
                    | go_keep
                    | (go_split_ands
                       refine ⟨?_, ?_, ?_⟩
                       · (rw [ha.far (by simp; omega) n1]; assumption)
                       · (rw [ha.far (by simp; omega) n1]; assumption)
                       · (rw [ha.far (by simp; omega) n2]; assumption)))
                  ((refine step_app1 Tryz.dgElem _ (by rfl) _ _ (by rfl) w2.heap.size B cb dl (by rfl) ((World.ownsRow.alloc (HS.out.to HB6.out).dg _).drew) (⟨num, fcol, 4⟩ : Dg) W6.heap.size 1 (by rfl) (heap_alloc_new W6 _) (by unfold maxLen; omega) (by omega) (by simp; omega) ?_; intro g2 cap w8 ha))
                have hb8 := (app1_end (cur_step1 HB.out HB6.out) (own_base HS.out.dg) ((cur_new W6 _).drew) ha).1
                have hs8 := HS.out.diag (cur_step1 HB6.out (cur_new W6 _).drew) ha
                have HB8 := Lib.hid hb8
                have HS8 := Lib.hid hs8
                clear ha hb8 hs8
                go_wp2_with (fail)
                exact ⟨⟨k + 1, es, A, c, dl ++ [⟨num, fcol, 4⟩], some ⟨g2, 0, none⟩, cap, by omega, rfl, rfl, by simp, by omega, by simp; omega, fun e => absurd e (by simp), HS8.out, HN3.out, HB8.out⟩, by show rs.length - (k + 1) < rs.length - k; omega⟩
              · have g5 : decide ((dl.length : Int) < 50) = false := by simp; omega
                have HN3 := Lib.hid (show ((rs.map Lr.lin).take (k + 1)).foldl plStep ([], []) = (es, dl) by rw [HN4.out, if_neg hd50])
                go_wp2_with (fail)
                exact ⟨⟨k + 1, es, A, c, dl, B, cb, by omega, rfl, rfl, rfl, by omega, by omega, fun e => absurd (by rw [e]; decide) hd50, HS.out.to HB6.out, HN3.out, cur_step1 HB.out HB6.out⟩, by show rs.length - (k + 1) < rs.length - k; omega⟩
            · skip
              by_cases hd50 : dl.length < 50
              · have g5 : decide ((dl.length : Int) < 50) = true := by simp; omega
                have HN3 := Lib.hid (show ((rs.map Lr.lin).take (k + 1)).foldl plStep ([], []) = (es, dl ++ [⟨num, fcol, 4⟩]) by rw [HN4.out, if_pos hd50, HCOL.out])
                go_wp2_with (fail)
                have ol := World.ownsRow.lt HS.out.dg
                have n1 : (Value.slice B dl.length cb).ownBlock ≠ some wr.heap.size := fun e => by have := ol _ e; omega
                have n2 : (Value.slice B dl.length cb).ownBlock ≠ some g := fun e => by have := ol _ e; have := HGL.out; omega
                have hw26 : w2.heap.size ≤ W6.heap.size := Nat.le_trans HB.out.size HB6.out.size
                have hx6 := HX6.out.lt
                have hg6 : g < W6.heap.size := Nat.lt_of_lt_of_le HGL.out hw26
                clear ol
                go_region_held3 (fun w' => w'.cell? ⟨wr.heap.size, 0, none⟩ = some (.int .i64 num) ∧ w'.cell? ⟨wr.heap.size, 1, none⟩ = some (.slice (some ⟨g, 0, none⟩) fs.length gc) ∧ w'.cell? ⟨g, 1, none⟩ = some (.int .i64 fcol))
                  (first
                    | go_keep
                    | (go_split_ands
                       refine ⟨?_, ?_, ?_⟩
                       · (rw [ha.far (by simp; omega) n1]; assumption)
                       · (rw [ha.far (by simp; omega) n1]; assumption)
                       · (rw [ha.far (by simp; omega) n2]; assumption)))
                  ((refine step_app1 Tryz.dgElem _ (by rfl) _ _ (by rfl) w2.heap.size B cb dl (by rfl) ((World.ownsRow.alloc (HS.out.to HB6.out).dg _).drew) (⟨num, fcol, 4⟩ : Dg) W6.heap.size 1 (by rfl) (heap_alloc_new W6 _) (by unfold maxLen; omega) (by omega) (by simp; omega) ?_; intro g2 cap w8 ha))
                have hb8 := (app1_end (cur_step1 HB.out HB6.out) (own_base HS.out.dg) ((cur_new W6 _).drew) ha).1
                have hs8 := HS.out.diag (cur_step1 HB6.out (cur_new W6 _).drew) ha
                have HB8 := Lib.hid hb8
                have HS8 := Lib.hid hs8
                clear ha hb8 hs8
                go_wp2_with (fail)
                exact ⟨⟨k + 1, es, A, c, dl ++ [⟨num, fcol, 4⟩], some ⟨g2, 0, none⟩, cap, by omega, rfl, rfl, by simp, by omega, by simp; omega, fun e => absurd e (by simp), HS8.out, HN3.out, HB8.out⟩, by show rs.length - (k + 1) < rs.length - k; omega⟩
              · have g5 : decide ((dl.length : Int) < 50) = false := by simp; omega
                have HN3 := Lib.hid (show ((rs.map Lr.lin).take (k + 1)).foldl plStep ([], []) = (es, dl) by rw [HN4.out, if_neg hd50])
                go_wp2_with (fail)
                exact ⟨⟨k + 1, es, A, c, dl, B, cb, by omega, rfl, rfl, rfl, by omega, by omega, fun e => absurd (by rw [e]; decide) hd50, HS.out.to HB6.out, HN3.out, cur_step1 HB.out HB6.out⟩, by show rs.length - (k + 1) < rs.length - k; omega⟩
    · have hkn : k = rs.length := by omega
      have g9 : ¬ k < rs.length := hkl
      have HF := Lib.hid (show (rs.map Lr.lin).foldl plStep ([], []) = (es, dl) by rw [← HSPK.out, hkn, ← List.length_map (f := Lr.lin), List.take_length])
      have hbw : w.heap.size ≤ w2.heap.size := HB2.out.size
      by_cases hdl0 : dl = []
      · subst hdl0
        have HEK := Lib.hid (show es.length = rs.length by rw [HE0.out rfl, hkn])
        clear hkn
        by_cases h4000 : 4000 < rs.length
        · have g5 : decide (4000 < (rs.length : Int)) = true := by simp; omega
          have HFI := Lib.hid (show R = ([], [⟨1, 1, 9⟩]) by rw [HRR.out, HF.out, if_neg (by simp), if_pos (by have := HEK.out; show 4000 < es.length; omega)])
          go_wp2_with (refine wpList_app1 Tryz.dgElem _ rfl (.tmp 89) (.tmp 91) rfl w2.heap.size B cb [] rfl ?o1 (⟨1, 1, 9⟩ : Dg) wr.heap.size 1 rfl ?o2 ?o3 ?o4 ?o5 ?_)
          case o1 => exact World.ownsRow.alloc HS.out.dg _
          case o2 => first | exact heap_alloc_new _ _ | exact (Array.getElem?_eq_some_iff.1 (heap_alloc_new _ _)).2
          case o3 => unfold maxLen; decide
          case o5 => have := HB.out.size; first | omega | (simp; omega)
          intro g2 cap w8 ha
          have hb8 := (app1_end HB.out (own_base HS.out.dg) (cur_new _ _) ha).1
          have hs8 := HS.out.diag (cur_new _ _) ha
          have HB8 := Lib.hid hb8
          have HS8 := Lib.hid hs8
          clear ha hb8 hs8
          go_wp2_with (fail)
          go_ret2
          rw [HFI.out]
          have hrd := OwnL.rd dgE_len HS8.out.dg
          obtain ⟨A', c', e2, h, _⟩ := hrd
          injection e2 with e2 _ _
          subst e2
          exact ⟨none, 0, some ⟨g2, 0, none⟩, cap, rfl, Rd.nil_, h, cur_step1 HB2.out HB8.out⟩
        · have g5 : decide (4000 < (rs.length : Int)) = false := by simp; omega
          have HFI := Lib.hid (show R = (es, []) by rw [HRR.out, HF.out, if_neg (by simp), if_neg (by have := HEK.out; show ¬ 4000 < es.length; omega)])
          go_wp2_with (fail)
          go_ret2
          rw [HFI.out]
          have hrd := OwnL.rd evE_len HS.out.ev
          obtain ⟨A', c', e2, h, _⟩ := hrd
          injection e2 with e2 _ _
          subst e2
          first | exact ⟨A, c, none, 0, rfl, h, Rd.nil_, cur_step1 HB2.out HB.out⟩ | exact ⟨A, c, none, ⟨0, rfl⟩, h, Rd.nil_, cur_step1 HB2.out HB.out⟩
      · have hdl1 : 0 < dl.length := List.length_pos_iff.2 hdl0
        have hdl2 : ¬ dl.length = 0 := by omega
        have HFI := Lib.hid (show R = ([], dl) by rw [HRR.out, HF.out, if_pos hdl0])
        clear hdl0 hkn
        go_wp2_with (fail)
        go_ret2
        rw [HFI.out]
        have hrd := OwnL.rd dgE_len HS.out.dg
        obtain ⟨A', c', e2, h, _⟩ := hrd
        injection e2 with e2 _ _
        subst e2
        first | exact ⟨none, 0, B, cb, rfl, Rd.nil_, h, cur_step1 HB2.out HB.out⟩ | exact ⟨none, ⟨0, B, cb, rfl⟩, Rd.nil_, h, cur_step1 HB2.out HB.out⟩
end

section
/-! EventLogs: the law's comparison of two lists of diagnostics. -/
open Go.RowKit
set_option maxRecDepth 100000
set_option maxHeartbeats 4000000
attribute [-simp] Tryz.isAgg50 Tryz.sizeOf50
def SdR (w : World) (l m : List Dg) (i : Value) (wr : World) : Prop := ∃ k : Nat, k ≤ l.length ∧ i = .int .i64 k ∧ l.take k = m.take k ∧ Below w.heap.size w wr
theorem guard_dg (op : BinOp) (x y : Operand) (xs ys : Array Value) (w : World) : (eqGuard op 50 x y (.agg xs) (.agg ys)).run Tryz.prog w = .ok () w := run_eqGuard_agg w op _ x y xs ys (by kernel_rfl)
theorem dg_neq (d d' : Dg) (w : World) : (binOp .neq 50 (.agg (dgE d).toArray) (.agg (dgE d').toArray)).run Tryz.prog w = .ok (.bool (!decide (d = d'))) w := by
  show (binOp .neq 50 (.agg #[.int .i64 d.line, .int .i64 d.col, .int .i64 d.code]) (.agg #[.int .i64 d'.line, .int .i64 d'.col, .int .i64 d'.code])).run Tryz.prog w = _
  rw [run_neq_struct, dg_eqf]
  rfl
theorem diags_p (A B : Option Addr) (c d : Nat) (l m : List Dg) (w : World) (hl : l.length ≤ 1000000) (hm : m.length ≤ 1000000) (hr : Rd dgE 3 w w.heap.size A l) (hs : Rd dgE 3 w w.heap.size B m) :
    Calls Tryz.prog 22 #[.slice A l.length c, .slice B m.length d] w fun e w' => e = .returned (.bool (decide (l = m))) ∧ Below w.heap.size w w' := by
  by_cases h0 : l.length = m.length
  · have hne : ((l.length : Int) != (m.length : Int)) = false := by simp; omega
    have H0 := Lib.hid h0
    have HR := Lib.hid hr
    have HS := Lib.hid hs
    clear h0 hr hs
    go_enter Tryz.func22, Tryz.ntmps22
    go_wp2_with (fail)
    go_loopw [13] (SdR w l m) (fun i _ => l.length - (intOf i).toNat)
    case atStart => exact ⟨0, by omega, rfl, rfl, Below.refl _ _⟩
    case round =>
      obtain ⟨k, hk, rfl, ht, hb⟩ := hrel
      have HT := Lib.hid ht
      have HB := Lib.hid hb
      clear ht hb
      by_cases hlt : k < l.length
      · have hlm : k < m.length := by have := H0.out; omega
        obtain ⟨x, hx⟩ : ∃ x, l[k]? = some x := ⟨_, List.getElem?_eq_getElem hlt⟩
        obtain ⟨y, hy⟩ : ∃ y, m[k]? = some y := ⟨_, List.getElem?_eq_getElem hlm⟩
        obtain ⟨b1, o1, rfl, hb1, hc1⟩ := HR.out.at_ HB.out hx
        obtain ⟨b2, o2, rfl, hb2, hc2⟩ := HS.out.at_ HB.out hy
        have HX := Lib.hid hx
        have HY := Lib.hid hy
        obtain ⟨N, hN⟩ : ∃ N : Nat, 3 = N := ⟨_, rfl⟩
        have hA : ∀ w, Sem.run Tryz.prog (isAgg 50) w = .ok true w := fun w => Tryz.isAgg50 w
        have hZ : ∀ w, Sem.run Tryz.prog (sizeOf 50) w = .ok N w := fun w => by rw [← hN]; exact Tryz.sizeOf50 w
        have h3 : ((k : Int) * 3).toNat = k * 3 := by omega
        have l1 : b1 < wr.heap.size := by have := HB.out.size; omega
        have l2 : b2 < wr.heap.size := by have := HB.out.size; omega
        have hl1 : ∀ n, Sem.run Tryz.prog (loadCellsFrom ⟨b1, o1 + k * N, none⟩ 0 N #[]) (wr.drewN n) = .ok (dgE x).toArray (wr.drewN n) := fun n => run_mid (fun j v hv => by rw [← hN]; simpa using hc1 j v hv) hN
        have hl2 : ∀ n, Sem.run Tryz.prog (loadCellsFrom ⟨b2, o2 + k * N, none⟩ 0 N #[]) (wr.drewN n) = .ok (dgE y).toArray (wr.drewN n) := fun n => run_mid (fun j v hv => by rw [← hN]; simpa using hc2 j v hv) hN
        have p0 : wr.cell? ⟨b1, o1 + k * N, none⟩ = some (.int .i64 x.line) := by rw [← hN]; exact hc1 0 _ rfl
        have q0 : wr.cell? ⟨b2, o2 + k * N, none⟩ = some (.int .i64 y.line) := by rw [← hN]; exact hc2 0 _ rfl
        have hg := guard_dg
        clear hc1 hc2 hx hy hN
        by_cases he : x = y
        · have kn : ∀ w : World, (binOp .neq 50 (.agg (dgE x).toArray) (.agg (dgE y).toArray)).run Tryz.prog w = .ok (.bool false) w := fun w => by rw [dg_neq]; simp [he]
          have HE := Lib.hid he
          clear he
          generalize (dgE x).toArray = ax at *
          generalize (dgE y).toArray = ay at *
          go_wp2_with fail
          go_quiet (fail)
          go_wp2
          go_roundw
          case rel => exact ⟨k + 1, hlt, by simp, by rw [take_next8 HX.out, take_next8 HY.out, HT.out, HE.out], below_drewN HB.out _⟩
          case measure => simp [intOf]; omega
        · have kn : ∀ w : World, (binOp .neq 50 (.agg (dgE x).toArray) (.agg (dgE y).toArray)).run Tryz.prog w = .ok (.bool true) w := fun w => by rw [dg_neq]; simp [he]
          have HE := Lib.hid he
          clear he
          generalize (dgE x).toArray = ax at *
          generalize (dgE y).toArray = ay at *
          go_wp2_with fail
          go_quiet (fail)
          go_wp2
          go_ret
          have hlm : decide (l = m) = false := decide_eq_false (by
            rintro rfl
            exact HE.out (by have h1 := HX.out; have h2 := HY.out; rw [h1] at h2; injection h2))
          rw [hlm]
          exact ⟨rfl, below_drewN HB.out _⟩
      · go_wp2_with fail
        go_ret
        have hk2 : k = l.length := by omega
        have := HT.out
        rw [hk2] at this
        have hlm : decide (l = m) = true := decide_eq_true (by
          rw [List.take_length, H0.out, List.take_length] at this
          exact this)
        rw [hlm]
        exact ⟨rfl, HB.out⟩
  · have hne : ((l.length : Int) != (m.length : Int)) = true := by simp; omega
    have hd : decide (l = m) = false := by simp; intro e; exact h0 (by rw [e])
    have HD := Lib.hid hd
    clear h0 hd hr hs
    go_enter Tryz.func22, Tryz.ntmps22
    go_wp2_with fail
    go_ret
    rw [HD.out]
    exact ⟨rfl, Below.refl _ _⟩
end

section
/-! EventLogs: the walk. -/
open Go.RowKit
set_option maxRecDepth 100000
set_option maxHeartbeats 4000000
theorem splF_dg : ∀ (l : List (List UInt8)) (i : Nat) (a : List Lin × List Dg), a.2.length ≤ 50 → (splF i a l).2.length ≤ 50
  | [], _, _, h => h
  | s :: r, i, a, h => by
    refine splF_dg r (i + 1) (splStep a i s) ?_
    unfold splStep
    split
    · rename_i h2
      simp
      omega
    · split <;> exact h
theorem splitP_dg (src : List UInt8) : (splitP src).2.length ≤ 50 := by
  unfold splitP
  split
  · simp
  · exact splF_dg _ _ _ (by simp)
theorem plF_dg : ∀ (l : List Lin) (a : List Ev × List Dg), a.2.length ≤ 50 → (l.foldl plStep a).2.length ≤ 50
  | [], _, h => h
  | x :: r, a, h => by
    refine plF_dg r (plStep a x) ?_
    unfold plStep
    split
    · split
      · simp; omega
      · exact h
    · exact h
theorem parlog_len (src : List UInt8) : (ParLogP src).1.length ≤ 4000 ∧ (ParLogP src).2.length ≤ 50 := by
  unfold ParLogP
  split
  · exact ⟨by simp, splitP_dg src⟩
  · split
    · exact ⟨by simp, plF_dg _ _ (by simp)⟩
    · split
      · exact ⟨by simp, by simp⟩
      · exact ⟨by dsimp only; omega, by simp⟩
theorem own_rd {α : Type} {enc : α → List Value} {size e base : Nat} {w : World} {A : Option Addr} {c : Nat} {l : List α} (hs : ∀ x, (enc x).length = size) (h : OwnL enc size e base w (.slice A l.length c) l) : Rd enc size w w.heap.size A l := by
  obtain ⟨A', c', e2, h, _⟩ := OwnL.rd hs h
  injection e2 with e2 _ _
  rw [e2]; exact h
theorem law_logs (A : Option Addr) (c : Nat) (l : List Ev) (p : ByteArray) (w : World) (hlc : l.length ≤ c) (hc : c ≤ 9223372036854775807) (hr : Rd evE 19 w w.heap.size A l) (hz : ∀ e ∈ l, 0 ≤ e.ball.how ∧ 0 ≤ e.ball.src) (hps : p.size ≤ 9223372036854775807) (hw : LibW w) :
    Calls Tryz.prog 6 #[.slice A l.length c, .string p] w fun e' w' => e' = .returned (.bool true) ∧ Below w.heap.size w w' := by
  have HL := Lib.hid hw
  obtain ⟨n, hn⟩ : ∃ n, l.length = n := ⟨_, rfl⟩
  obtain ⟨k, hk⟩ : ∃ k, l.take 20 = k := ⟨_, rfl⟩
  have hkl : min n 20 = k.length := by rw [← hk, List.length_take]; omega
  have hk20 : k.length ≤ 20 := by omega
  have HRK := Lib.hid (show Rd evE 19 w w.heap.size A k by rw [← hk]; exact hr.pre 20)
  have HH := Lib.hid (show ∀ e ∈ k, 0 ≤ e.ball.how from fun e he => (hz e (by rw [← hk] at he; exact List.mem_of_mem_take he)).1)
  have HKL := Lib.hid hkl
  have HNC := Lib.hid (show n ≤ c by omega)
  obtain ⟨m, hm⟩ : ∃ m : Nat, min p.size 500 = m := ⟨_, rfl⟩
  have hm1 : m ≤ p.size := by omega
  have hm2 : m ≤ 500 := by omega
  have hmin : min (p.size : Int) 500 = (m : Nat) := by omega
  obtain ⟨q, hq⟩ : ∃ q, p.extract 0 m = q := ⟨_, rfl⟩
  have hqz : q.size ≤ 500 := by rw [← hq, ByteArray.size_extract]; omega
  have HQ := Lib.hid hq
  obtain ⟨ql, hql⟩ : ∃ ql, q.data.toList = ql := ⟨_, rfl⟩
  have HQL := Lib.hid (show sA ql = q by rw [← hql]; rfl)
  have HQN := Lib.hid (show ql.length ≤ 500 by rw [← hql, Array.length_toList]; exact hqz)
  rw [hn]
  clear hr hz hk hlc hn hkl hw hm hq hql
  go_enter Tryz.func6, Tryz.ntmps6
  go_wp2_with (fail)
  refine (awake8_p _ HL.out).mono ?_
  rintro e' w2 ⟨rfl, hb2⟩
  have HB2 := Lib.hid hb2
  clear hb2
  go_wp2_with (fail)
  refine (few_p A n c k.length HKL.out HNC.out hc w2).mono ?_
  rintro e' w3 ⟨⟨c3, rfl⟩, hb3⟩
  have HB3 := Lib.hid (cur_step1 HB2.out hb3)
  clear hb3
  go_wp2_with (fail)
  rw [HQ.out]
  have HR3 := Lib.hid (HRK.out.to HB3.out)
  refine (textlog_p k A c3 w3 (by omega) HH.out (HL.out.to HB3.out) HR3.out).mono ?_
  rintro e' w4 ⟨rfl, hb4⟩
  obtain ⟨T, hT⟩ : ∃ T, TxtLog k = T := ⟨_, rfl⟩
  obtain ⟨tx, te⟩ := T
  rw [hT]
  dsimp only
  have HT := Lib.hid hT
  have HB4 := Lib.hid (cur_step1 HB3.out hb4)
  have HR4 := Lib.hid (HR3.out.to hb4)
  clear hb4 hT
  obtain ⟨ts, hts⟩ : ∃ y, sA tx = y := ⟨_, rfl⟩
  rw [hts]
  have HTS := Lib.hid hts
  clear hts
  go_wp2_with (fail)
  have hc5 := textlog_r k A c3 w4 (by omega) HH.out HR4.out
  rw [HT.out] at hc5
  dsimp only at hc5
  rw [HTS.out] at hc5
  refine hc5.mono ?_
  clear hc5
  rintro e' w5 ⟨rfl, hb5⟩
  have HB5 := Lib.hid (cur_step1 HB4.out hb5)
  clear hb5
  go_wp2_with (fail)
  have hc6 := parlog_p ql (by have := HQN.out; omega) w5 (HL.out.to HB5.out)
  have hpl := parlog_len ql
  rw [HQL.out] at hc6
  obtain ⟨R, hR⟩ : ∃ R, ParLogP ql = R := ⟨_, rfl⟩
  rw [hR] at hc6 hpl
  have HR := Lib.hid hR
  obtain ⟨es, dl⟩ := R
  dsimp only at hpl
  refine hc6.mono ?_
  clear hc6 hR
  rintro e' w6 ⟨A6, c6, B6, d6, rfl, ho6, hd6, hb6⟩
  dsimp only at ho6 hd6 ⊢
  have HO6 := Lib.hid (own_rd evE_len ho6)
  have HD6 := Lib.hid (own_rd dgE_len hd6)
  have HB6 := Lib.hid (cur_step1 HB5.out hb6)
  clear ho6 hd6 hb6
  go_wp2_with (fail)
  have hc7 := parlog_r ql (by have := HQN.out; omega) w6
  rw [HQL.out, HR.out] at hc7
  refine hc7.mono ?_
  clear hc7
  rintro e' w7 ⟨A7, c7, B7, d7, rfl, ho7, hd7, hb7⟩
  dsimp only at ho7 hd7 ⊢
  have HO7 := Lib.hid ho7
  have HD7 := Lib.hid hd7
  have HO8 := Lib.hid (HO6.out.to hb7)
  have HD8 := Lib.hid (HD6.out.to hb7)
  have HB7 := Lib.hid (cur_step1 HB6.out hb7)
  clear ho7 hd7 hb7
  obtain ⟨p1, p2⟩ := hpl
  go_wp2_with (fail)
  refine (same_p A6 A7 c6 c7 es es w7 (by omega) (by omega) HO8.out HO7.out).mono ?_
  rintro e' w8 ⟨rfl, hb8⟩
  rw [show decide (es = es) = true by simp]
  have HB8 := Lib.hid (cur_step1 HB7.out hb8)
  have HD9 := Lib.hid (HD8.out.to hb8)
  have HD10 := Lib.hid (HD7.out.to hb8)
  clear hb8
  go_wp2_with (fail)
  refine (diags_p B6 B7 d6 d7 dl dl w8 (by omega) (by omega) HD9.out HD10.out).mono ?_
  rintro e' w9 ⟨rfl, hb9⟩
  rw [show decide (dl = dl) = true by simp]
  have HB9 := Lib.hid (cur_step1 HB8.out hb9)
  clear hb9
  go_wp2_with (fail)
  go_ret
  exact ⟨rfl, HB9.out⟩
end
end Go.Proofs.YtgkjcapoddjkhaaGreatDoor
