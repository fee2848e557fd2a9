/-
  Texts of one chapter, put together (a claim holds at most sixty files).
-/
import Derived.Test.YtdbiihfoafoljaaGreatDoorChrg
import Derived.Test.YtdbiihfoafoljaaGreatDoorPadE
import Derived.Test.YtdbiihfoafoljaaGreatDoorNotPrR
import Derived.Test.YtdbiihfoafoljaaGreatDoorEvT
import Derived.Test.YtdbiihfoafoljaaGreatDoorBase
import Derived.Orders
import Derived.Deep.Quiet
import Derived.Test.YtdbiihfoafoljaaGreatDoorRtA58
import Derived.Test.YtdbiihfoafoljaaGreatDoorArcK
import Derived.RegionTactic
import Derived.BigRegion
import Derived.Deep.RegionHeld3
set_option linter.unusedSimpArgs false
set_option linter.unusedVariables false
namespace Go.Proofs.YtdbiihfoafoljaaGreatDoor
section
/-! Chapter 8: Text of the reference. -/
open Go.RowKit
set_option maxRecDepth 100000
set_option maxHeartbeats 8000000
theorem okE_bnd {e : Ev} (h : OkE e) : (0 ≤ e.side ∧ e.side ≤ 1000000) ∧ (0 ≤ e.player ∧ e.player ≤ 1000000) ∧ (0 ≤ e.other ∧ e.other ≤ 1000000) ∧ (0 ≤ e.runs ∧ e.runs ≤ 1000000) ∧ (0 ≤ e.overs ∧ e.overs ≤ 1000000) := by
  have key : ∀ (n lo hi : Int) (b : Bool), 0 ≤ lo → hi ≤ 1000000 → (b = false → (n != 0) = false) → (b = true → btw n lo hi = true) → 0 ≤ n ∧ n ≤ 1000000 := by
    intro n lo hi b h0 h1 hz hf
    cases b with
    | false => have := hz rfl; simp at this; omega
    | true => have := hf rfl; unfold btw at this; simp at this; omega
  have hlo : 0 ≤ loR e.kind := by unfold loR; split <;> (try split) <;> decide
  have hhi : hiR e.kind ≤ 1000000 := by unfold hiR; split <;> (try split) <;> decide
  refine ⟨key _ 1 2 (usesB e.kind 115) (by decide) (by decide) (h.zero 115 (by decide)) (h.fits 115 (by decide)), key _ 1 11 (usesB e.kind 112) (by decide) (by decide) (h.zero 112 (by decide)) (h.fits 112 (by decide)), key _ 1 11 (usesB e.kind 111) (by decide) (by decide) (h.zero 111 (by decide)) (h.fits 111 (by decide)), key _ _ _ (usesB e.kind 114) hlo hhi (h.zero 114 (by decide)) (h.fits 114 (by decide)), key _ 0 90 (usesB e.kind 118) (by decide) (by decide) (h.zero 118 (by decide)) (h.fits 118 (by decide))⟩
theorem dec_r8 (x : Int) (t : ByteArray) (h0 : 0 ≤ x) (h1 : x ≤ 1000000) (ht : sA (dcB x) = t) (w : World) : Calls Tryz.prog 26 #[.int .i64 x] w fun e w' => e = .returned (.string t) ∧ Below w.heap.size w w' := by
  obtain ⟨n, rfl⟩ : ∃ n : Nat, x = n := ⟨x.toNat, by omega⟩
  rw [← ht]
  exact decimal_r n (by omega) w
theorem choose_r (y : Bool) (a b : ByteArray) (w : World) : Calls Tryz.prog 51 #[.bool y, .string a, .string b] w fun e w' => e = .returned (.string (if y then a else b)) ∧ w = w' := by
  cases y
  · go_enter Tryz.func51, Tryz.ntmps51
    go_wp2_with fail
    go_ret
    exact ⟨rfl, rfl⟩
  · go_enter Tryz.func51, Tryz.ntmps51
    go_wp2_with fail
    go_ret
    exact ⟨rfl, rfl⟩
theorem txk_1y (s p o : Int) (y : Bool) (r v : Int) (b : Del) : (([84, 79, 83, 83, 32] ++ dcB s) ++ [32, 66, 65, 84]) = txtE ⟨1, s, p, o, true, r, v, b⟩ := by
  simp [txtE, wordsE, word0, wordL, wordT, fldsL, fldsT, fieldL, joinS, yesL, yesT, noL, noT, sTO]
theorem txk_1n (s p o : Int) (y : Bool) (r v : Int) (b : Del) : (([84, 79, 83, 83, 32] ++ dcB s) ++ [32, 70, 73, 69, 76, 68]) = txtE ⟨1, s, p, o, false, r, v, b⟩ := by
  simp [txtE, wordsE, word0, wordL, wordT, fldsL, fldsT, fieldL, joinS, yesL, yesT, noL, noT, sTO]
theorem txk_2 (s p o : Int) (y : Bool) (r v : Int) (b : Del) : ((([79, 80, 69, 78, 32] ++ dcB p) ++ [32]) ++ dcB o) = txtE ⟨2, s, p, o, y, r, v, b⟩ := by
  simp [txtE, wordsE, word0, wordL, wordT, fldsL, fldsT, fieldL, joinS, yesL, yesT, noL, noT, sTO]
theorem txk_3 (s p o : Int) (y : Bool) (r v : Int) (b : Del) : ([66, 79, 87, 76, 32] ++ dcB p) = txtE ⟨3, s, p, o, y, r, v, b⟩ := by
  simp [txtE, wordsE, word0, wordL, wordT, fldsL, fldsT, fieldL, joinS, yesL, yesT, noL, noT, sTO]
theorem txk_4 (s p o : Int) (y : Bool) (r v : Int) (b : Del) : ([66, 65, 76, 76, 32] ++ prtD b) = txtE ⟨4, s, p, o, y, r, v, b⟩ := by
  simp [txtE, wordsE, word0, wordL, wordT, fldsL, fldsT, fieldL, joinS, yesL, yesT, noL, noT, sTO]
theorem txk_5y (s p o : Int) (y : Bool) (r v : Int) (b : Del) : ([84, 73, 77, 69, 79, 85, 84, 32] ++ dcB p) = txtE ⟨5, s, p, o, true, r, v, b⟩ := by
  simp [txtE, wordsE, word0, wordL, wordT, fldsL, fldsT, fieldL, joinS, yesL, yesT, noL, noT, sTO]
theorem txk_5n (s p o : Int) (y : Bool) (r v : Int) (b : Del) : ([69, 78, 84, 69, 82, 32] ++ dcB p) = txtE ⟨5, s, p, o, false, r, v, b⟩ := by
  simp [txtE, wordsE, word0, wordL, wordT, fldsL, fldsT, fieldL, joinS, yesL, yesT, noL, noT, sTO]
theorem txk_6y (s p o : Int) (y : Bool) (r v : Int) (b : Del) : (([82, 69, 84, 73, 82, 69, 32] ++ dcB p) ++ [32, 72, 85, 82, 84]) = txtE ⟨6, s, p, o, true, r, v, b⟩ := by
  simp [txtE, wordsE, word0, wordL, wordT, fldsL, fldsT, fieldL, joinS, yesL, yesT, noL, noT, sTO]
theorem txk_6n (s p o : Int) (y : Bool) (r v : Int) (b : Del) : (([82, 69, 84, 73, 82, 69, 32] ++ dcB p) ++ [32, 79, 85, 84]) = txtE ⟨6, s, p, o, false, r, v, b⟩ := by
  simp [txtE, wordsE, word0, wordL, wordT, fldsL, fldsT, fieldL, joinS, yesL, yesT, noL, noT, sTO]
theorem txk_7 (s p o : Int) (y : Bool) (r v : Int) (b : Del) : ([70, 73, 69, 76, 68, 32] ++ dcB r) = txtE ⟨7, s, p, o, y, r, v, b⟩ := by
  simp [txtE, wordsE, word0, wordL, wordT, fldsL, fldsT, fieldL, joinS, yesL, yesT, noL, noT, sTO]
theorem txk_8 (s p o : Int) (y : Bool) (r v : Int) (b : Del) : ([75, 69, 69, 80, 69, 82, 32] ++ dcB p) = txtE ⟨8, s, p, o, y, r, v, b⟩ := by
  simp [txtE, wordsE, word0, wordL, wordT, fldsL, fldsT, fieldL, joinS, yesL, yesT, noL, noT, sTO]
theorem txk_9y (s p o : Int) (y : Bool) (r v : Int) (b : Del) : (([83, 85, 66, 32] ++ dcB p) ++ [32, 79, 78]) = txtE ⟨9, s, p, o, true, r, v, b⟩ := by
  simp [txtE, wordsE, word0, wordL, wordT, fldsL, fldsT, fieldL, joinS, yesL, yesT, noL, noT, sTO]
theorem txk_9n (s p o : Int) (y : Bool) (r v : Int) (b : Del) : (([83, 85, 66, 32] ++ dcB p) ++ [32, 79, 70, 70]) = txtE ⟨9, s, p, o, false, r, v, b⟩ := by
  simp [txtE, wordsE, word0, wordL, wordT, fldsL, fldsT, fieldL, joinS, yesL, yesT, noL, noT, sTO]
theorem txk_10 (s p o : Int) (y : Bool) (r v : Int) (b : Del) : [78, 69, 87, 66, 65, 76, 76] = txtE ⟨10, s, p, o, y, r, v, b⟩ := by
  simp [txtE, wordsE, word0, wordL, wordT, fldsL, fldsT, fieldL, joinS, yesL, yesT, noL, noT, sTO]
theorem txk_11 (s p o : Int) (y : Bool) (r v : Int) (b : Del) : ([68, 69, 67, 76, 65, 82, 69, 32] ++ dcB s) = txtE ⟨11, s, p, o, y, r, v, b⟩ := by
  simp [txtE, wordsE, word0, wordL, wordT, fldsL, fldsT, fieldL, joinS, yesL, yesT, noL, noT, sTO]
theorem txk_12y (s p o : Int) (y : Bool) (r v : Int) (b : Del) : (([70, 79, 76, 76, 79, 87, 32] ++ dcB s) ++ [32, 89, 69, 83]) = txtE ⟨12, s, p, o, true, r, v, b⟩ := by
  simp [txtE, wordsE, word0, wordL, wordT, fldsL, fldsT, fieldL, joinS, yesL, yesT, noL, noT, sTO]
theorem txk_12n (s p o : Int) (y : Bool) (r v : Int) (b : Del) : (([70, 79, 76, 76, 79, 87, 32] ++ dcB s) ++ [32, 78, 79]) = txtE ⟨12, s, p, o, false, r, v, b⟩ := by
  simp [txtE, wordsE, word0, wordL, wordT, fldsL, fldsT, fieldL, joinS, yesL, yesT, noL, noT, sTO]
theorem txk_13 (s p o : Int) (y : Bool) (r v : Int) (b : Del) : ((([80, 69, 78, 65, 76, 84, 89, 32] ++ dcB s) ++ [32]) ++ dcB r) = txtE ⟨13, s, p, o, y, r, v, b⟩ := by
  simp [txtE, wordsE, word0, wordL, wordT, fldsL, fldsT, fieldL, joinS, yesL, yesT, noL, noT, sTO]
theorem txk_14y (s p o : Int) (y : Bool) (r v : Int) (b : Del) : (([82, 69, 86, 73, 69, 87, 32] ++ dcB s) ++ [32, 75, 69, 80, 84]) = txtE ⟨14, s, p, o, true, r, v, b⟩ := by
  simp [txtE, wordsE, word0, wordL, wordT, fldsL, fldsT, fieldL, joinS, yesL, yesT, noL, noT, sTO]
theorem txk_14n (s p o : Int) (y : Bool) (r v : Int) (b : Del) : (([82, 69, 86, 73, 69, 87, 32] ++ dcB s) ++ [32, 76, 79, 83, 84]) = txtE ⟨14, s, p, o, false, r, v, b⟩ := by
  simp [txtE, wordsE, word0, wordL, wordT, fldsL, fldsT, fieldL, joinS, yesL, yesT, noL, noT, sTO]
theorem txk_15 (s p o : Int) (y : Bool) (r v : Int) (b : Del) : ((([82, 69, 86, 73, 83, 69, 32] ++ dcB r) ++ [32]) ++ dcB v) = txtE ⟨15, s, p, o, y, r, v, b⟩ := by
  simp [txtE, wordsE, word0, wordL, wordT, fldsL, fldsT, fieldL, joinS, yesL, yesT, noL, noT, sTO]
theorem txk_16 (s p o : Int) (y : Bool) (r v : Int) (b : Del) : [83, 84, 79, 80] = txtE ⟨16, s, p, o, y, r, v, b⟩ := by
  simp [txtE, wordsE, word0, wordL, wordT, fldsL, fldsT, fieldL, joinS, yesL, yesT, noL, noT, sTO]
theorem textr8 (e : Ev) (hh : 0 ≤ e.ball.how) (w : World) : Calls Tryz.prog 25 #[evV e] w fun e' w' => e' = .returned (.tuple #[.string (sA (TxtE e).1), .int .i64 (TxtE e).2]) ∧ Below w.heap.size w w' := by
  obtain ⟨w1, hw1⟩ : ∃ y, w.alloc (.cells (evE e).toArray 38) = y := ⟨_, rfl⟩
  have HB1 := Lib.hid (show Below w.heap.size w w1 by rw [← hw1]; exact cur_new _ _)
  have HK1 := Lib.hid (show Blk w1 w.heap.size 38 (evE e) by rw [← hw1]; exact Blk.new w _ _)
  have SW1 := Lib.hid (show w.alloc (.cells #[.int .u8 e.kind, .int .i64 e.side, .int .i64 e.player, .int .i64 e.other, .bool e.yes, .int .i64 e.runs, .int .i64 e.overs, .int .u8 e.ball.ty, .int .u8 e.ball.src, .int .i64 e.ball.runs, .int .i64 e.ball.short, .int .i64 e.ball.bd, .bool e.ball.cr, .int .u8 e.ball.how, .int .i64 e.ball.vic, .int .i64 e.ball.fd, .int .i64 e.ball.sd, .bool e.ball.sub, .int .i64 e.ball.sec] 38) = w1 by rw [← hw1]; rfl)
  obtain ⟨b, hb⟩ : ∃ b, w.heap.size = b := ⟨_, rfl⟩
  rw [hb] at HK1
  have HBB := Lib.hid hb
  have HH := Lib.hid hh
  unfold evV
  clear hw1 hb hh
  go_enter Tryz.func25, Tryz.ntmps25
  go_wp2_with (first | rw [SW1.out, HBB.out] | (refine wpList_loadC rfl _ 38 rfl b 38 (evE e) _ rfl (by rfl) (by rfl) (by rfl) HK1.out ?_))
  refine (chre e w1).mono ?_
  rintro e' w2 ⟨rfl, hb2⟩
  have HB2 := Lib.hid (cur_step1 HB1.out hb2)
  have HK2 := Lib.hid (HK1.out.to hb2)
  clear hb2
  generalize Value.agg #[.int .u8 e.kind, .int .i64 e.side, .int .i64 e.player, .int .i64 e.other, .bool e.yes, .int .i64 e.runs, .int .i64 e.overs, .int .u8 e.ball.ty, .int .u8 e.ball.src, .int .i64 e.ball.runs, .int .i64 e.ball.short, .int .i64 e.ball.bd, .bool e.ball.cr, .int .u8 e.ball.how, .int .i64 e.ball.vic, .int .i64 e.ball.fd, .int .i64 e.ball.sd, .bool e.ball.sub, .int .i64 e.ball.sec] = av
  by_cases hc : chkE e = 0
  · have HT := Lib.hid (show TxtE e = (txtE e, 0) by unfold TxtE; rw [if_neg (by simpa using hc)])
    have HOK := Lib.hid (okE_of hc)
    rw [hc]
    clear hc
    obtain ⟨⟨s0, s1⟩, ⟨p0, p1⟩, ⟨o0, o1⟩, ⟨r0, r1⟩, ⟨v0, v1⟩⟩ := okE_bnd HOK.out
    have HBN := Lib.hid (And.intro (And.intro s0 s1) (And.intro (And.intro p0 p1) (And.intro (And.intro o0 o1) (And.intro (And.intro r0 r1) (And.intro v0 v1)))))
    have hlt := HK2.out.lt
    obtain ⟨tts, hts⟩ : ∃ y, sA (dcB e.side) = y := ⟨_, rfl⟩
    have HTs := Lib.hid hts
    have zs : tts.size ≤ 7 := by rw [← hts, sA_sz]; exact dcB_len7 (by omega)
    have ks : ∀ s : Wd w2 [], s.w.cell? ⟨b, 1, none⟩ = some (.int .i64 e.side) := fun s => (s.h.1.cell (p := ⟨b, 1, none⟩) hlt).trans (HK2.out.cell 1)
    obtain ⟨ttp, htp⟩ : ∃ y, sA (dcB e.player) = y := ⟨_, rfl⟩
    have HTp := Lib.hid htp
    have zp : ttp.size ≤ 7 := by rw [← htp, sA_sz]; exact dcB_len7 (by omega)
    have kp : ∀ s : Wd w2 [], s.w.cell? ⟨b, 2, none⟩ = some (.int .i64 e.player) := fun s => (s.h.1.cell (p := ⟨b, 2, none⟩) hlt).trans (HK2.out.cell 2)
    obtain ⟨tto, hto⟩ : ∃ y, sA (dcB e.other) = y := ⟨_, rfl⟩
    have HTo := Lib.hid hto
    have zo : tto.size ≤ 7 := by rw [← hto, sA_sz]; exact dcB_len7 (by omega)
    have ko : ∀ s : Wd w2 [], s.w.cell? ⟨b, 3, none⟩ = some (.int .i64 e.other) := fun s => (s.h.1.cell (p := ⟨b, 3, none⟩) hlt).trans (HK2.out.cell 3)
    obtain ⟨ttr, htr⟩ : ∃ y, sA (dcB e.runs) = y := ⟨_, rfl⟩
    have HTr := Lib.hid htr
    have zr : ttr.size ≤ 7 := by rw [← htr, sA_sz]; exact dcB_len7 (by omega)
    have kr : ∀ s : Wd w2 [], s.w.cell? ⟨b, 5, none⟩ = some (.int .i64 e.runs) := fun s => (s.h.1.cell (p := ⟨b, 5, none⟩) hlt).trans (HK2.out.cell 5)
    obtain ⟨ttv, htv⟩ : ∃ y, sA (dcB e.overs) = y := ⟨_, rfl⟩
    have HTv := Lib.hid htv
    have zv : ttv.size ≤ 7 := by rw [← htv, sA_sz]; exact dcB_len7 (by omega)
    have kv : ∀ s : Wd w2 [], s.w.cell? ⟨b, 6, none⟩ = some (.int .i64 e.overs) := fun s => (s.h.1.cell (p := ⟨b, 6, none⟩) hlt).trans (HK2.out.cell 6)
    have hex : ∀ s : Wd w2 [], ∃ s' : Wd w2 [], s.w = s'.w := fun s => ⟨s, rfl⟩
    have K3 : Keep w2 w2 [] := Keep.start (Below.refl _ _) (by simp)
    haveI hne : Nonempty (Wd w2 []) := ⟨⟨_, K3⟩⟩
    clear s0 s1 p0 p1 o0 o1 r0 r1 v0 v1 hts htp hto htr htv
    go_upto_region 4 with (fail)
    refine wp_region_wd w2 [] (by kernel_rfl) (by kernel_rfl) K3.drew ?_
    repeat (go_big_quiet_step ((go_at_call 26; (first | (refine (dec_r8 e.side tts (by have := HBN.out; omega) (by have := HBN.out; omega) HTs.out _).mono ?_) | (refine (dec_r8 e.player ttp (by have := HBN.out; omega) (by have := HBN.out; omega) HTp.out _).mono ?_) | (refine (dec_r8 e.other tto (by have := HBN.out; omega) (by have := HBN.out; omega) HTo.out _).mono ?_)); rintro e' w4 ⟨rfl, hb4⟩; exact ⟨rfl, ⟨w4, (Wd.h _).to hb4⟩, rfl⟩)))
    refine wpQuiet_nil ?_
    rintro w4 ⟨s4, hs4⟩
    have K4 : Keep w2 w4 [] := by rw [hs4]; exact s4.h
    clear hs4 s4
    (try simp only [])
    go_upto_region 5 with (fail)
    refine wp_region_wd w2 [] (by kernel_rfl) (by kernel_rfl) K4.drew ?_
    repeat (go_big_quiet_step ((go_at_call 26; (first | (refine (dec_r8 e.runs ttr (by have := HBN.out; omega) (by have := HBN.out; omega) HTr.out _).mono ?_) | (refine (dec_r8 e.overs ttv (by have := HBN.out; omega) (by have := HBN.out; omega) HTv.out _).mono ?_)); rintro e' w4 ⟨rfl, hb4⟩; exact ⟨rfl, ⟨w4, (Wd.h _).to hb4⟩, rfl⟩)))
    refine wpQuiet_nil ?_
    rintro w5 ⟨s5, hs5⟩
    have K5 : Keep w2 w5 [] := by rw [hs5]; exact s5.h
    clear hs5 s5 K4 K3 hex hne ks kp ko kr kv hlt
    (try simp only [])
    have HB5 := Lib.hid (cur_step1 HB2.out K5.1)
    have HK5 := Lib.hid (HK2.out.to K5.1)
    clear K5
    have hlt := HK5.out.lt
    have d4 : w5.cell? ⟨b, 4, none⟩ = some (.bool e.yes) := HK5.out.cell 4
    have d0 : w5.cell? ⟨b, 0, none⟩ = some (.int .u8 e.kind) := HK5.out.cell 0
    have hkd := HOK.out.kind
    obtain ⟨k, s, p, o, y, r, v, bd⟩ := e
    dsimp only at *
    rcases (by omega : k = 1 ∨ k = 2 ∨ k = 3 ∨ k = 4 ∨ k = 5 ∨ k = 6 ∨ k = 7 ∨ k = 8 ∨ k = 9 ∨ k = 10 ∨ k = 11 ∨ k = 12 ∨ k = 13 ∨ k = 14 ∨ k = 15 ∨ k = 16) with rfl | rfl | rfl | rfl | rfl | rfl | rfl | rfl | rfl | rfl | rfl | rfl | rfl | rfl | rfl | rfl
    · cases y
      · have q0 : (9223372036854775807 < 5 + tts.size) = False := by simp; omega
        have q1 : (9223372036854775807 < 5 + tts.size + 6) = False := by simp; omega
        go_wp2_with (fail)
        refine (choose_r _ _ _ _).mono ?_
        rintro e' w9 ⟨rfl, rfl⟩
        (try simp only [if_true, if_false, Bool.false_eq_true])
        go_wp2_with (fail)
        go_ret2
        refine ⟨?_, HB5.out⟩
        rw [HT.out]
        dsimp only
        rw [← txk_1n s p o false r v bd, ← HTs.out, ← sA_app, ← sA_app]
        rfl
      · have q0 : (9223372036854775807 < 5 + tts.size) = False := by simp; omega
        have q1 : (9223372036854775807 < 5 + tts.size + 4) = False := by simp; omega
        go_wp2_with (fail)
        refine (choose_r _ _ _ _).mono ?_
        rintro e' w9 ⟨rfl, rfl⟩
        (try simp only [if_true, if_false, Bool.false_eq_true])
        go_wp2_with (fail)
        go_ret2
        refine ⟨?_, HB5.out⟩
        rw [HT.out]
        dsimp only
        rw [← txk_1y s p o true r v bd, ← HTs.out, ← sA_app, ← sA_app]
        rfl
    · have q0 : (9223372036854775807 < 5 + ttp.size) = False := by simp; omega
      have q1 : (9223372036854775807 < 5 + ttp.size + 1) = False := by simp; omega
      have q2 : (9223372036854775807 < 5 + ttp.size + 1 + tto.size) = False := by simp; omega
      go_wp2_with (fail)
      go_ret2
      refine ⟨?_, HB5.out⟩
      rw [HT.out]
      dsimp only
      rw [← txk_2 s p o y r v bd, ← HTp.out, ← HTo.out, ← sA_app, ← sA_app, ← sA_app]
      rfl
    · have q0 : (9223372036854775807 < 5 + ttp.size) = False := by simp; omega
      go_wp2_with (fail)
      go_ret2
      refine ⟨?_, HB5.out⟩
      rw [HT.out]
      dsimp only
      rw [← txk_3 s p o y r v bd, ← HTp.out, ← sA_app]
      rfl
    · obtain ⟨tb, htb⟩ : ∃ y, sA (prtD bd) = y := ⟨_, rfl⟩
      have HTb := Lib.hid htb
      have h60 : (prtD bd).length ≤ 60 := prt_len (okD_of (HOK.out.ball rfl))
      have zb : tb.size ≤ 100 := by rw [← htb, sA_sz]; omega
      have d7 := HK5.out.cell 7
      have d8 := HK5.out.cell 8
      have d9 := HK5.out.cell 9
      have d10 := HK5.out.cell 10
      have d11 := HK5.out.cell 11
      have d12 := HK5.out.cell 12
      have d13 := HK5.out.cell 13
      have d14 := HK5.out.cell 14
      have d15 := HK5.out.cell 15
      have d16 := HK5.out.cell 16
      have d17 := HK5.out.cell 17
      have d18 := HK5.out.cell 18
      simp only [evE, delE, List.cons_append, List.nil_append, List.getElem?_cons_succ, List.getElem?_cons_zero] at d7 d8 d9 d10 d11 d12 d13 d14 d15 d16 d17 d18
      clear htb
      have q0 : (9223372036854775807 < 5 + tb.size) = False := by simp; omega
      go_wp2_with (fail)
      refine (printr_p bd (HOK.out.ball rfl) HH.out _).mono ?_
      rintro e' w9 ⟨rfl, hb9⟩
      have HB9 := Lib.hid (cur_step1 HB5.out hb9)
      rw [HTb.out]
      clear hb9
      go_wp2_with (fail)
      go_ret2
      refine ⟨?_, HB9.out⟩
      rw [HT.out]
      dsimp only
      rw [← txk_4 s p o y r v bd, ← HTb.out, ← sA_app]
      rfl
    · cases y
      · have q0 : (9223372036854775807 < 6 + ttp.size) = False := by simp; omega
        go_wp2_with (fail)
        refine (choose_r _ _ _ _).mono ?_
        rintro e' w9 ⟨rfl, rfl⟩
        (try simp only [if_true, if_false, Bool.false_eq_true])
        go_wp2_with (fail)
        go_ret2
        refine ⟨?_, HB5.out⟩
        rw [HT.out]
        dsimp only
        rw [← txk_5n s p o false r v bd, ← HTp.out, ← sA_app]
        rfl
      · have q0 : (9223372036854775807 < 8 + ttp.size) = False := by simp; omega
        go_wp2_with (fail)
        refine (choose_r _ _ _ _).mono ?_
        rintro e' w9 ⟨rfl, rfl⟩
        (try simp only [if_true, if_false, Bool.false_eq_true])
        go_wp2_with (fail)
        go_ret2
        refine ⟨?_, HB5.out⟩
        rw [HT.out]
        dsimp only
        rw [← txk_5y s p o true r v bd, ← HTp.out, ← sA_app]
        rfl
    · cases y
      · have q0 : (9223372036854775807 < 7 + ttp.size) = False := by simp; omega
        have q1 : (9223372036854775807 < 7 + ttp.size + 4) = False := by simp; omega
        go_wp2_with (fail)
        refine (choose_r _ _ _ _).mono ?_
        rintro e' w9 ⟨rfl, rfl⟩
        (try simp only [if_true, if_false, Bool.false_eq_true])
        go_wp2_with (fail)
        go_ret2
        refine ⟨?_, HB5.out⟩
        rw [HT.out]
        dsimp only
        rw [← txk_6n s p o false r v bd, ← HTp.out, ← sA_app, ← sA_app]
        rfl
      · have q0 : (9223372036854775807 < 7 + ttp.size) = False := by simp; omega
        have q1 : (9223372036854775807 < 7 + ttp.size + 5) = False := by simp; omega
        go_wp2_with (fail)
        refine (choose_r _ _ _ _).mono ?_
        rintro e' w9 ⟨rfl, rfl⟩
        (try simp only [if_true, if_false, Bool.false_eq_true])
        go_wp2_with (fail)
        go_ret2
        refine ⟨?_, HB5.out⟩
        rw [HT.out]
        dsimp only
        rw [← txk_6y s p o true r v bd, ← HTp.out, ← sA_app, ← sA_app]
        rfl
    · have q0 : (9223372036854775807 < 6 + ttr.size) = False := by simp; omega
      go_wp2_with (fail)
      go_ret2
      refine ⟨?_, HB5.out⟩
      rw [HT.out]
      dsimp only
      rw [← txk_7 s p o y r v bd, ← HTr.out, ← sA_app]
      rfl
    · have q0 : (9223372036854775807 < 7 + ttp.size) = False := by simp; omega
      go_wp2_with (fail)
      go_ret2
      refine ⟨?_, HB5.out⟩
      rw [HT.out]
      dsimp only
      rw [← txk_8 s p o y r v bd, ← HTp.out, ← sA_app]
      rfl
    · cases y
      · have q0 : (9223372036854775807 < 4 + ttp.size) = False := by simp; omega
        have q1 : (9223372036854775807 < 4 + ttp.size + 4) = False := by simp; omega
        go_wp2_with (fail)
        refine (choose_r _ _ _ _).mono ?_
        rintro e' w9 ⟨rfl, rfl⟩
        (try simp only [if_true, if_false, Bool.false_eq_true])
        go_wp2_with (fail)
        go_ret2
        refine ⟨?_, HB5.out⟩
        rw [HT.out]
        dsimp only
        rw [← txk_9n s p o false r v bd, ← HTp.out, ← sA_app, ← sA_app]
        rfl
      · have q0 : (9223372036854775807 < 4 + ttp.size) = False := by simp; omega
        have q1 : (9223372036854775807 < 4 + ttp.size + 3) = False := by simp; omega
        go_wp2_with (fail)
        refine (choose_r _ _ _ _).mono ?_
        rintro e' w9 ⟨rfl, rfl⟩
        (try simp only [if_true, if_false, Bool.false_eq_true])
        go_wp2_with (fail)
        go_ret2
        refine ⟨?_, HB5.out⟩
        rw [HT.out]
        dsimp only
        rw [← txk_9y s p o true r v bd, ← HTp.out, ← sA_app, ← sA_app]
        rfl
    · go_wp2_with (fail)
      go_ret2
      refine ⟨?_, HB5.out⟩
      rw [HT.out]
      dsimp only
      rw [← txk_10 s p o y r v bd]
      rfl
    · have q0 : (9223372036854775807 < 8 + tts.size) = False := by simp; omega
      go_wp2_with (fail)
      go_ret2
      refine ⟨?_, HB5.out⟩
      rw [HT.out]
      dsimp only
      rw [← txk_11 s p o y r v bd, ← HTs.out, ← sA_app]
      rfl
    · cases y
      · have q0 : (9223372036854775807 < 7 + tts.size) = False := by simp; omega
        have q1 : (9223372036854775807 < 7 + tts.size + 3) = False := by simp; omega
        go_wp2_with (fail)
        refine (choose_r _ _ _ _).mono ?_
        rintro e' w9 ⟨rfl, rfl⟩
        (try simp only [if_true, if_false, Bool.false_eq_true])
        go_wp2_with (fail)
        go_ret2
        refine ⟨?_, HB5.out⟩
        rw [HT.out]
        dsimp only
        rw [← txk_12n s p o false r v bd, ← HTs.out, ← sA_app, ← sA_app]
        rfl
      · have q0 : (9223372036854775807 < 7 + tts.size) = False := by simp; omega
        have q1 : (9223372036854775807 < 7 + tts.size + 4) = False := by simp; omega
        go_wp2_with (fail)
        refine (choose_r _ _ _ _).mono ?_
        rintro e' w9 ⟨rfl, rfl⟩
        (try simp only [if_true, if_false, Bool.false_eq_true])
        go_wp2_with (fail)
        go_ret2
        refine ⟨?_, HB5.out⟩
        rw [HT.out]
        dsimp only
        rw [← txk_12y s p o true r v bd, ← HTs.out, ← sA_app, ← sA_app]
        rfl
    · have q0 : (9223372036854775807 < 8 + tts.size) = False := by simp; omega
      have q1 : (9223372036854775807 < 8 + tts.size + 1) = False := by simp; omega
      have q2 : (9223372036854775807 < 8 + tts.size + 1 + ttr.size) = False := by simp; omega
      go_wp2_with (fail)
      go_ret2
      refine ⟨?_, HB5.out⟩
      rw [HT.out]
      dsimp only
      rw [← txk_13 s p o y r v bd, ← HTs.out, ← HTr.out, ← sA_app, ← sA_app, ← sA_app]
      rfl
    · cases y
      · have q0 : (9223372036854775807 < 7 + tts.size) = False := by simp; omega
        have q1 : (9223372036854775807 < 7 + tts.size + 5) = False := by simp; omega
        go_wp2_with (fail)
        refine (choose_r _ _ _ _).mono ?_
        rintro e' w9 ⟨rfl, rfl⟩
        (try simp only [if_true, if_false, Bool.false_eq_true])
        go_wp2_with (fail)
        go_ret2
        refine ⟨?_, HB5.out⟩
        rw [HT.out]
        dsimp only
        rw [← txk_14n s p o false r v bd, ← HTs.out, ← sA_app, ← sA_app]
        rfl
      · have q0 : (9223372036854775807 < 7 + tts.size) = False := by simp; omega
        have q1 : (9223372036854775807 < 7 + tts.size + 5) = False := by simp; omega
        go_wp2_with (fail)
        refine (choose_r _ _ _ _).mono ?_
        rintro e' w9 ⟨rfl, rfl⟩
        (try simp only [if_true, if_false, Bool.false_eq_true])
        go_wp2_with (fail)
        go_ret2
        refine ⟨?_, HB5.out⟩
        rw [HT.out]
        dsimp only
        rw [← txk_14y s p o true r v bd, ← HTs.out, ← sA_app, ← sA_app]
        rfl
    · have q0 : (9223372036854775807 < 7 + ttr.size) = False := by simp; omega
      have q1 : (9223372036854775807 < 7 + ttr.size + 1) = False := by simp; omega
      have q2 : (9223372036854775807 < 7 + ttr.size + 1 + ttv.size) = False := by simp; omega
      go_wp2_with (fail)
      go_ret2
      refine ⟨?_, HB5.out⟩
      rw [HT.out]
      dsimp only
      rw [← txk_15 s p o y r v bd, ← HTr.out, ← HTv.out, ← sA_app, ← sA_app, ← sA_app]
      rfl
    · go_wp2_with (fail)
      go_ret2
      refine ⟨?_, HB5.out⟩
      rw [HT.out]
      dsimp only
      rw [← txk_16 s p o y r v bd]
      rfl
  · obtain ⟨v, hv⟩ : ∃ v, chkE e = v := ⟨_, rfl⟩
    have HT := Lib.hid (show TxtE e = ([], v) by unfold TxtE; rw [if_pos hc, hv])
    have gv : (v != 0) = true := by rw [← hv]; simpa using hc
    rw [hv]
    clear hc hv
    go_wp2_with (fail)
    go_ret2
    rw [HT.out]
    exact ⟨rfl, HB2.out⟩
end

section
/-! A region that draws its order, whose last operation waits for all the others: the others quiet in a class of worlds, the last one walked from whatever world of the class. -/
open Go.RowKit

/-- Operation i may come: it is not listed, and what it waits for is. -/
def okAt (md : Region.Mode) (l : List Oper) (listed : Array Bool) (i : Nat) : Prop := ∃ x, l[i]? = some x ∧ listed.getD i true = false ∧ ∀ e ∈ x.after, Region.binds md e = true → listed.getD e.on false = true
theorem mem_ready {md : Region.Mode} {l : List Oper} {listed : Array Bool} {i : Nat} : i ∈ Region.ready md l.toArray listed ↔ okAt md l listed i := by
  unfold Region.ready okAt
  rw [List.mem_filter, List.mem_range]
  constructor
  · rintro ⟨h1, h2⟩
    simp only [List.size_toArray] at h1
    simp only [List.getElem?_toArray, Bool.and_eq_true, Bool.not_eq_true'] at h2
    obtain ⟨h2, h3⟩ := h2
    rw [List.getElem?_eq_getElem h1] at h3
    simp only [Option.map_some, Option.getD_some, Array.all_eq_true'] at h3
    refine ⟨l[i], List.getElem?_eq_getElem h1, h2, fun e he hb => ?_⟩
    have := h3 e he
    simpa [hb] using this
  · rintro ⟨x, hx, h2, h3⟩
    have h1 := (List.getElem?_eq_some_iff.1 hx).1
    refine ⟨by simpa using h1, ?_⟩
    simp only [List.getElem?_toArray, hx, Bool.and_eq_true, Bool.not_eq_true', Option.map_some, Option.getD_some, Array.all_eq_true']
    refine ⟨h2, fun e he => ?_⟩
    cases hb : Region.binds md e
    · rfl
    · simpa using h3 e he hb
/-- Does x wait for i? -/
def waitsB (md : Region.Mode) (x : Oper) (i : Nat) : Bool := x.after.any fun e => Region.binds md e && e.on == i
structure Shape (md : Region.Mode) (l : List Oper) (o : Oper) : Prop where
  guards : ∀ x ∈ l, x.guard = none
  guard : o.guard = none
  back : ∀ i x, l[i]? = some x → ∀ e ∈ x.after, Region.binds md e = true → e.on < i
  backo : ∀ e ∈ o.after, Region.binds md e = true → e.on < l.length
  cover : ∀ i, i < l.length → waitsB md o i = true ∨ ∃ j x, i < j ∧ l[j]? = some x ∧ waitsB md x i = true
def shapeB (md : Region.Mode) (l : List Oper) (o : Oper) : Bool :=
  (l.all fun x => x.guard.isNone) && o.guard.isNone && (List.range l.length).all (fun i => (l[i]?).all fun x => x.after.all fun e => !Region.binds md e || decide (e.on < i)) &&
  (o.after.all fun e => !Region.binds md e || decide (e.on < l.length)) &&
  (List.range l.length).all fun i => waitsB md o i || (List.range l.length).any fun j => decide (i < j) && (l[j]?).any fun x => waitsB md x i
theorem Shape.of {md : Region.Mode} {l : List Oper} {o : Oper} (h : shapeB md l o = true) : Shape md l o := by
  unfold shapeB at h
  simp only [Bool.and_eq_true, List.all_eq_true, List.mem_range, Array.all_eq_true'] at h
  obtain ⟨⟨⟨⟨h1, h2⟩, h3⟩, h4⟩, h5⟩ := h
  refine ⟨fun x hx => by have := h1 x hx; simpa using this, by simpa using h2, fun i x hx e he hb => ?_, fun e he hb => ?_, fun i hi => ?_⟩
  · have := h3 i (List.getElem?_eq_some_iff.1 hx).1
    rw [hx] at this
    simp only [Option.all_some, Array.all_eq_true'] at this
    have := this e he
    simpa [hb] using this
  · have := h4 e he
    simpa [hb] using this
  · have := h5 i hi
    simp only [Bool.or_eq_true, List.any_eq_true, List.mem_range, Bool.and_eq_true, decide_eq_true_eq] at this
    rcases this with h | ⟨j, hj, hij, hx⟩
    · exact .inl h
    · rw [List.getElem?_eq_getElem hj] at hx
      exact .inr ⟨j, l[j], hij, List.getElem?_eq_getElem hj, by simpa using hx⟩
theorem waits_iff {md : Region.Mode} {x : Oper} {i : Nat} : waitsB md x i = true ↔ ∃ e ∈ x.after, Region.binds md e = true ∧ e.on = i := by
  unfold waitsB
  rw [Array.any_eq_true']
  simp
/-- What is listed is closed under waiting. -/
def Closed (md : Region.Mode) (l : List Oper) (listed : Array Bool) : Prop := ∀ i x, l[i]? = some x → listed.getD i false = true → ∀ e ∈ x.after, Region.binds md e = true → listed.getD e.on false = true
theorem getD_lt {a : Array Bool} {i : Nat} (h : i < a.size) (d d' : Bool) : a.getD i d = a.getD i d' := by simp [Array.getD, h]
theorem all_of_none {md : Region.Mode} {l : List Oper} {o : Oper} (S : Shape md l o) {listed : Array Bool} (hs : listed.size = l.length) (h : Region.ready md l.toArray listed = []) : ∀ i, i < l.length → listed.getD i false = true := by
  intro i
  induction i using Nat.strongRecOn with
  | ind i ih =>
    intro hi
    cases hl : listed.getD i false with
    | true => rfl
    | false =>
      exfalso
      have : i ∈ Region.ready md l.toArray listed := mem_ready.2 ⟨l[i], List.getElem?_eq_getElem hi, by rw [getD_lt (by omega) true false]; exact hl, fun e he hb => by
        have := S.back i _ (List.getElem?_eq_getElem hi) e he hb
        exact ih e.on this (by omega)⟩
      rw [h] at this
      cases this
theorem all_of_last {md : Region.Mode} {l : List Oper} {o : Oper} (S : Shape md l o) {listed : Array Bool} (hc : Closed md l listed) (hw : ∀ e ∈ o.after, Region.binds md e = true → listed.getD e.on false = true) : ∀ i, i < l.length → listed.getD i false = true := by
  have key : ∀ d i, i < l.length → l.length - i = d → listed.getD i false = true := by
    intro d
    induction d using Nat.strongRecOn with
    | ind d ih =>
      intro i hi hd
      rcases S.cover i hi with h | ⟨j, x, hij, hx, h⟩
      · obtain ⟨e, he, hb, rfl⟩ := waits_iff.1 h
        exact hw e he hb
      · obtain ⟨e, he, hb, rfl⟩ := waits_iff.1 h
        have hj := (List.getElem?_eq_some_iff.1 hx).1
        exact hc j x hx (ih (l.length - j) (by omega) j hj rfl) e he hb
  exact fun i hi => key _ i hi rfl
theorem push_getD {a : Array Bool} {i : Nat} {b d : Bool} (h : i < a.size) : (a.push b).getD i d = a.getD i d := by
  simp only [Array.getD_eq_getD_getElem?, Array.getElem?_push]
  rw [if_neg (by omega)]
theorem ready_push {md : Region.Mode} {l : List Oper} {o : Oper} (S : Shape md l o) {listed : Array Bool} (hs : listed.size = l.length) {i : Nat} (hi : i < l.length) : i ∈ Region.ready md (l ++ [o]).toArray (listed.push false) ↔ i ∈ Region.ready md l.toArray listed := by
  rw [mem_ready, mem_ready]
  unfold okAt
  rw [List.getElem?_append_left hi, push_getD (by omega)]
  constructor
  · rintro ⟨x, hx, h1, h2⟩
    exact ⟨x, hx, h1, fun e he hb => by have := h2 e he hb; rwa [push_getD (by have := S.back i x hx e he hb; omega)] at this⟩
  · rintro ⟨x, hx, h1, h2⟩
    exact ⟨x, hx, h1, fun e he hb => by rw [push_getD (by have := S.back i x hx e he hb; omega)]; exact h2 e he hb⟩
theorem last_ready {md : Region.Mode} {l : List Oper} {o : Oper} (S : Shape md l o) {listed : Array Bool} (hs : listed.size = l.length) : l.length ∈ Region.ready md (l ++ [o]).toArray (listed.push false) ↔ ∀ e ∈ o.after, Region.binds md e = true → listed.getD e.on false = true := by
  rw [mem_ready]
  unfold okAt
  rw [List.getElem?_append_right (Nat.le_refl _), Nat.sub_self]
  constructor
  · rintro ⟨x, hx, h1, h2⟩ e he hb
    simp at hx
    subst hx
    have := h2 e he hb
    rwa [push_getD (by have := S.backo e he hb; omega)] at this
  · intro h
    refine ⟨o, rfl, ?_, fun e he hb => by rw [push_getD (by have := S.backo e he hb; omega)]; exact h e he hb⟩
    simp [Array.getD_eq_getD_getElem?, ← hs]
theorem wanted_none {o : Oper} {f : Nat → Option Bool} (h : o.guard = none) : Region.wanted o f = true := by simp [Region.wanted, h]
section
variable {P : Program} {md : Region.Mode} {l : List Oper} {o : Oper} {C : World → Prop}
theorem none_left (S : Shape md l o) {listed : Array Bool} (hs : listed.size = l.length) (hall : ∀ i, i < l.length → listed.getD i false = true) : Region.ready md (l ++ [o]).toArray ((listed.push false).setIfInBounds l.length true) = [] := by
  rw [List.eq_nil_iff_forall_not_mem]
  intro i hi
  obtain ⟨x, hx, h1, _⟩ := mem_ready.1 hi
  have hlt := (List.getElem?_eq_some_iff.1 hx).1
  simp only [List.length_append, List.length_cons, List.length_nil] at hlt
  rw [Array.getD_eq_getD_getElem?, Array.getElem?_setIfInBounds] at h1
  by_cases e : l.length = i
  · rw [if_pos e] at h1
    simp [hs] at h1
  · rw [if_neg e] at h1
    have h2 := hall i (by omega)
    rw [← Array.getD_eq_getD_getElem?, push_getD (by omega), getD_lt (by omega) true false, h2] at h1
    cases h1
theorem wpAny_last (S : Shape md l o) {Q : Act → Prop} {Q' : Exit → Act → World → Prop}
    (hlast : ∀ a w, C w → Q a → o.wp P a w (fun a' w' => Q' .normal a' w') Q') :
    ∀ (fuel : Nat) (listed : Array Bool) (a : Act) (w : World), listed.size = l.length → Closed md l listed → C w → wpAnyQ P md l.toArray C Q fuel listed a → wpAny P md (l ++ [o]).toArray Q' (fuel + 1) (listed.push false) a w := by
  have hget : (l ++ [o]).toArray[l.length]? = some o := by simp
  have hfin : ∀ (listed : Array Bool) (a : Act) (w : World) (fuel : Nat), listed.size = l.length → (∀ i, i < l.length → listed.getD i false = true) → C w → Q a →
      wpOp P (l ++ [o]).toArray Q' l.length (wpAny P md (l ++ [o]).toArray Q' fuel ((listed.push false).setIfInBounds l.length true)) a w := by
    intro listed a w fuel hs hall hw hq
    unfold wpOp
    rw [hget]
    simp only [wanted_none S.guard, if_true]
    refine .inl (Oper.wp_mono (fun a' w' h => ?_) (hlast a w hw hq))
    have hn := none_left S hs hall
    cases fuel with
    | zero => exact ⟨hn, h⟩
    | succ n => exact ⟨fun _ => h, fun i hi => by rw [hn] at hi; cases hi⟩
  have hempty : ∀ (listed : Array Bool), listed.size = l.length → Region.ready md (l ++ [o]).toArray (listed.push false) = [] → False := by
    intro listed hs h
    have h1 : Region.ready md l.toArray listed = [] := by
      rw [List.eq_nil_iff_forall_not_mem]
      intro i hi
      have hlt : i < l.length := by obtain ⟨x, hx, _⟩ := mem_ready.1 hi; exact (List.getElem?_eq_some_iff.1 hx).1
      have := (ready_push S hs hlt).2 hi
      rw [h] at this
      cases this
    have hall := all_of_none S hs h1
    have := (last_ready S hs).2 (fun e he hb => hall _ (S.backo e he hb))
    rw [h] at this
    cases this
  have hsplit : ∀ (listed : Array Bool) (i : Nat), i ∈ Region.ready md (l ++ [o]).toArray (listed.push false) → i < l.length ∨ i = l.length := by
    intro listed i hi
    obtain ⟨x, hx, _⟩ := mem_ready.1 hi
    have := (List.getElem?_eq_some_iff.1 hx).1
    simp at this
    omega
  intro fuel
  induction fuel with
  | zero =>
    intro listed a w hs hc hw h
    obtain ⟨h1, hq⟩ := h
    refine ⟨fun h => (hempty listed hs h).elim, fun i hi => ?_⟩
    rcases hsplit listed i hi with h2 | rfl
    · have := (ready_push S hs h2).1 hi
      rw [h1] at this
      cases this
    · exact hfin listed a w 0 hs (all_of_none S hs h1) hw hq
  | succ fuel ih =>
    intro listed a w hs hc hw h
    obtain ⟨h1, h2⟩ := h
    refine ⟨fun h => (hempty listed hs h).elim, fun i hi => ?_⟩
    rcases hsplit listed i hi with hlt | rfl
    · have hr := (ready_push S hs hlt).1 hi
      have hq := h2 i hr
      obtain ⟨x, hx, hx1, hx2⟩ := mem_ready.1 hr
      have hxg := S.guards x (List.mem_of_getElem? hx)
      have hL : l.toArray[i]? = some x := by simpa using hx
      have hF : (l ++ [o]).toArray[i]? = some x := by simp only [List.getElem?_toArray]; rw [List.getElem?_append_left hlt]; exact hx
      unfold qOp at hq
      rw [hL] at hq
      simp only [wanted_none hxg, if_true] at hq
      unfold wpOp
      rw [hF]
      simp only [wanted_none hxg, if_true]
      refine .inl (Oper.wp_of_quiet hw (fun a' w' hw' hk => ?_) hq)
      have hcomm : (listed.push false).setIfInBounds i true = (listed.setIfInBounds i true).push false := by
        apply Array.ext_getElem?
        intro j
        rw [Array.getElem?_setIfInBounds, Array.getElem?_push, Array.getElem?_push, Array.getElem?_setIfInBounds, Array.size_setIfInBounds, Array.size_push]
        by_cases e1 : i = j
        · subst e1
          rw [if_pos rfl, if_pos (by omega), if_neg (by omega), if_pos rfl, if_pos (by omega)]
        · rw [if_neg e1, if_neg e1]
      rw [hcomm]
      refine ih _ a' w' (by simpa using hs) ?_ hw' hk
      intro j y hy hj e he hb
      rw [Array.getD_eq_getD_getElem?, Array.getElem?_setIfInBounds] at hj ⊢
      by_cases eij : i = j
      · subst eij
        rw [hx] at hy
        injection hy with hy
        subst hy
        have h5 := hx2 e he hb
        by_cases e2 : i = e.on
        · rw [if_pos e2, if_pos (by omega)]; rfl
        · rw [if_neg e2, ← Array.getD_eq_getD_getElem?]; exact h5
      · rw [if_neg eij, ← Array.getD_eq_getD_getElem?] at hj
        have h5 := hc j y hy hj e he hb
        by_cases e2 : i = e.on
        · rw [if_pos e2, if_pos (by omega)]; rfl
        · rw [if_neg e2, ← Array.getD_eq_getD_getElem?]; exact h5
    · have hdep := (last_ready S hs).1 hi
      have hall := all_of_last S hc hdep
      have hq : Q a := h1 (by
        rw [List.eq_nil_iff_forall_not_mem]
        intro j hj
        obtain ⟨x, hx, hx1, _⟩ := mem_ready.1 hj
        have hjl := (List.getElem?_eq_some_iff.1 hx).1
        have := hall j hjl
        rw [getD_lt (by omega) true false, this] at hx1
        cases hx1)
      exact hfin listed a w (fuel + 1) hs hall hw hq
/-- The region: all but the last one quiet in the class, the last one from every world of the class. -/
theorem wp_region_last {id : Nat} {Q : Exit → Act → World → Prop} {a : Act} {w : World} (hm : P.follows .mixedOrders = true) (hS : shapeB .any l o = true) (hB : Region.lexB .any l.toArray = true) (hC : C w.drew)
    (h : wpQuiet P l.toArray C (fun a' => ∀ w', C w' → o.wp P a' w' (fun a'' w'' => Q .normal a'' w'') Q) l a) : (Code.region id (l ++ [o]).toArray true).wp P Q a w := by
  have S := Shape.of hS
  simp only [Region.lexB, Bool.and_eq_true] at hB
  refine wp_region_any hm ?_
  have hq := wpAnyQ_lex (C := C) (md := .any) hB.1 l 0 (Array.replicate l.length false) a (by simp) (by simpa using hB.2) h
  have := wpAny_last (P := P) S (C := C) (Q := fun a' => ∀ w', C w' → o.wp P a' w' (fun a'' w'' => Q .normal a'' w'') Q) (Q' := Q) (fun a w hw h => h w hw) l.length (Array.replicate l.length false) a w.drew (by simp) (by
    intro i x hx hi
    have := (List.getElem?_eq_some_iff.1 hx).1
    simp [Array.getD_eq_getD_getElem?, this] at hi) hC hq
  have e : (Array.replicate l.length false).push false = Array.replicate (l ++ [o]).toArray.size false := by
    rw [← Array.replicate_succ]; simp
  rw [e] at this
  have e2 : (l ++ [o]).toArray.size = l.length + 1 := by simp
  rw [e2] at this ⊢
  exact this
theorem wp_region_lastL {id : Nat} {Q : Exit → Act → World → Prop} {a : Act} {w : World} {L : List Oper} (hne : L ≠ []) (hm : P.follows .mixedOrders = true) (hS : shapeB .any L.dropLast (L.getLast hne) = true) (hB : Region.lexB .any L.dropLast.toArray = true) (hC : C w.drew)
    (h : wpQuiet P L.dropLast.toArray C (fun a' => ∀ w', C w' → (L.getLast hne).wp P a' w' (fun a'' w'' => Q .normal a'' w'') Q) L.dropLast a) : (Code.region id L.toArray true).wp P Q a w := by
  have := wp_region_last (id := id) hm hS hB hC h
  rwa [List.dropLast_concat_getLast] at this
end
end

section
/-! Chapter 58: the text of a file, of the program and of the reference. -/
open Go.RowKit
set_option maxRecDepth 100000
set_option maxHeartbeats 4000000
theorem dec_pA (n : Int) (h0 : 0 ≤ n) (h1 : n ≤ 9223372036854775807) (w : World) (hw : LibW w) :
    Calls Tryz.prog 21 #[.int .i64 n] w fun e w' => e = .returned (.string (dcA n)) ∧ Below w.heap.size w w' := by
  have HW := Lib.hid hw
  have hi : Lib.itoa n = dcB n := by unfold Lib.itoa dcB; rw [if_neg (by omega)]
  have HI := Lib.hid (show (⟨(Lib.itoa n).toArray⟩ : ByteArray) = dcA n by unfold dcA; rw [hi])
  clear hw hi
  go_enter Tryz.func21, Tryz.ntmps21
  go_wp2_with fail
  refine (Tryz.fmt_p n (by omega) (by omega) _ HW.out.tab).mono ?_
  rw [HI.out]
  rintro e w1 ⟨rfl, hb1⟩
  have HB := Lib.hid hb1
  clear hb1
  go_wp2_with fail
  go_ret
  exact ⟨rfl, HB.out⟩
theorem dec_rA (n : Int) (h0 : 0 ≤ n) (h1 : n ≤ 1000000000000000000) (w : World) :
    Calls Tryz.prog 26 #[.int .i64 n] w fun e w' => e = .returned (.string (dcA n)) ∧ Below w.heap.size w w' := by
  obtain ⟨m, rfl⟩ : ∃ m : Nat, n = m := ⟨n.toNat, by omega⟩
  unfold dcA dcB
  rw [Int.toNat_natCast]
  exact decimal_r m (by omega) w
theorem rowA_cat (x : Ent) : (((((dcA x.id ++ (⟨#[32]⟩ : ByteArray)) ++ x.sc) ++ (⟨#[32]⟩ : ByteArray)) ++ sA (txtE x.ev)) ++ (⟨#[10]⟩ : ByteArray)).data.toList = rowA x ++ [10] := by
  simp [rowA, dcA, sA]
theorem cat_A {b : ByteArray} {r : List UInt8} (T : List UInt8) (h : b.data.toList = r) : (⟨T.toArray⟩ : ByteArray) ++ b = ⟨(T ++ r).toArray⟩ := by
  apply ByteArray.ext
  apply Array.toList_inj.1
  rw [← h]
  simp
theorem rowA_len {x : Ent} (h : OkA x) : (rowA x ++ [10]).length ≤ 260 := by
  obtain ⟨⟨h1, h2⟩, h3, h4⟩ := h
  have a := dcB_len (n := x.id) h2
  have hp : x.sc.data.toList.length ≤ 16 := by
    have : x.sc.size ≤ 16 := by unfold nameB at h3; simp at h3; omega
    simpa using this
  have b : (txtE x.ev).length ≤ 200 := txt_len (okE_of h4)
  unfold rowA
  simp only [List.length_append, List.length_cons, List.length_nil]
  omega
theorem txtA_len : ∀ {f : List Ent}, (∀ x ∈ f, OkA x) → (txtA f).length ≤ 260 * f.length := by
  intro f
  induction f with
  | nil => intro _; simp [txtA]
  | cons z r ih =>
    intro h
    have h1 := rowA_len (h z List.mem_cons_self)
    have h2 := ih (fun x hx => h x (List.mem_cons_of_mem _ hx))
    unfold txtA at h2 ⊢
    rw [List.flatMap_cons, List.length_append, List.length_cons]
    omega
/-! The reference. -/
def TrA (l : List Ent) (w : World) (s i : Value) (wr : World) : Prop := ∃ k : Nat, k ≤ l.length ∧ i = .int .i64 k ∧ s = .string ⟨(txtA (l.take k)).toArray⟩ ∧ Below w.heap.size w wr
theorem text_ar (A : Option Addr) (c : Nat) (l : List Ent) (w : World) (hl : l.length ≤ 1000000) (hr : Rd entE 21 w w.heap.size A l) (hsz : ∀ z ∈ l, z.sc.size ≤ 9223372036854775807) (hh : ∀ z ∈ l, 0 ≤ z.ev.ball.how) :
    Calls Tryz.prog 8 #[.slice A l.length c] w fun e w' => e = .returned (.tuple #[.string ⟨(TxtA l).1.toArray⟩, .int .i64 (TxtA l).2]) ∧ Below w.heap.size w w' := by
  obtain ⟨e0, he0⟩ : ∃ e0, chkA l = e0 := ⟨_, rfl⟩
  have HR := Lib.hid hr
  have HSZ := Lib.hid hsz
  have HH := Lib.hid hh
  have HCK := Lib.hid (chka_r l A c w hl hsz hr)
  rw [he0] at HCK
  clear hr hsz hh
  by_cases h0 : e0 ≠ 0
  · have e1 : (e0 != 0) = true := by simpa using h0
    have HV := Lib.hid (show TxtA l = ([], e0) by unfold TxtA; rw [he0, if_pos h0])
    clear h0
    go_enter Tryz.func8, Tryz.ntmps8
    go_wp2_with fail
    refine HCK.out.mono ?_
    rintro e w1 ⟨rfl, hb1⟩
    have HB := Lib.hid hb1
    clear hb1
    go_wp2_with fail
    go_ret2
    rw [HV.out]
    exact ⟨rfl, HB.out⟩
  have h0' : e0 = 0 := by simpa using h0
  subst h0'
  clear h0
  obtain ⟨h40, hok⟩ := okA_of he0
  have HOK := Lib.hid hok
  have HV := Lib.hid (show TxtA l = if 262144 < (txtA l).length then ([], 9) else (txtA l, 0) by unfold TxtA; rw [if_neg (by rw [he0]; decide)])
  have HTT := Lib.hid (txtA_len hok)
  clear hok he0
  go_enter Tryz.func8, Tryz.ntmps8
  go_wp2_with fail
  refine HCK.out.mono ?_
  rintro e w1 ⟨rfl, hb1⟩
  have HB := Lib.hid hb1
  clear hb1
  go_wp2_with fail
  go_loopw [5, 17] (TrA l w) (fun _ i _ => l.length - (intOf i).toNat)
  case atStart => exact ⟨0, by omega, rfl, rfl, HB.out⟩
  case round =>
    obtain ⟨k, hk, rfl, rfl, hb⟩ := hrel
    clear HB
    have HB := Lib.hid hb
    clear hb
    by_cases hlt : k < l.length
    · obtain ⟨x, hx⟩ : ∃ x, l[k]? = some x := ⟨_, List.getElem?_eq_getElem hlt⟩
      obtain ⟨b2, off2, rfl, hb2l, hc2⟩ := HR.out k x hx
      have HRA := Lib.hid (show wr.rangeAt b2 (off2 + k * 21) (entE x) from fun j v hv => (HB.out.cell (p := ⟨b2, off2 + k * 21 + j, none⟩) hb2l).trans (hc2 j v hv))
      have hox := HOK.out x (List.mem_of_getElem? hx)
      have HXH := Lib.hid (HH.out x (List.mem_of_getElem? hx))
      have HT := Lib.hid (txtA_next hx)
      have HTL := Lib.hid (show (txtA (l.take k)).length ≤ 1040000 by
        have := txtA_len (f := l.take k) (fun y hy => HOK.out y (List.mem_of_mem_take hy))
        rw [List.length_take] at this
        omega)
      have HTX := Lib.hid (show TxtE x.ev = (txtE x.ev, 0) by unfold TxtE; rw [if_neg (by rw [hox.2.2]; decide)])
      have htl : (txtE x.ev).length ≤ 200 := txt_len (okE_of hox.2.2)
      obtain ⟨⟨q1, q2⟩, q3, q4⟩ := hox
      have hps : x.sc.size ≤ 16 := by unfold nameB at q3; simp at q3; omega
      have HCAT := Lib.hid (cat_A (txtA (l.take k)) (rowA_cat x))
      obtain ⟨W6, hW6⟩ : ∃ y, wr.alloc (.cells (entE x).toArray 40) = y := ⟨_, rfl⟩
      have HB6 := Lib.hid (show Below wr.heap.size wr W6 by rw [← hW6]; exact cur_new _ _)
      have HX6 := Lib.hid (show Blk W6 wr.heap.size 40 (entE x) by rw [← hW6]; exact Blk.new wr _ _)
      have S6 := Lib.hid hW6
      have HXN := Lib.hid (show W6.rangeAt wr.heap.size 1 (evE x.ev) from fun j v hv => by
        rw [HX6.out.cell]
        exact entE_ev x hv)
      clear hc2 hx hW6
      go_upto_region 8 with (first | (refine wpList_load_mid rfl 40 _ rfl b2 (off2 + k * 21) (by rfl) (entE x) _ HRA.out (by rfl) (by rfl) ent_info ?_) | (refine wpList_storeNew rfl _ _ 40 rfl _ (entE x).toArray ent_info (by rfl) (by rfl) rfl (ent_one _) ?_; rw [S6.out]))
      go_upto_region 9 with (first | (refine wpList_load_mid rfl 38 _ rfl wr.heap.size 1 (by rfl) (evE x.ev) _ HXN.out (by rfl) (by rfl) evt_info3 ?_) | (go_at_call 25; refine (textr8 x.ev HXH.out W6).mono ?_; rw [HTX.out]; rintro e w7 ⟨rfl, hb7⟩))
      obtain ⟨g, hg⟩ : ∃ g, wr.heap.size = g := ⟨_, rfl⟩
      have HG := Lib.hid hg
      have k0 : w7.cell? ⟨g, 0, none⟩ = some (.int .i64 x.id) := by
        rw [← hg]
        exact (hb7.cell (p := ⟨wr.heap.size, 0, none⟩) HX6.out.lt).trans (by rw [HX6.out.cell]; rfl)
      have k20 : w7.cell? ⟨g, 20, none⟩ = some (.string x.sc) := by
        rw [← hg]
        exact (hb7.cell (p := ⟨wr.heap.size, 20, none⟩) HX6.out.lt).trans (by rw [HX6.out.cell]; rfl)
      have hg7 : g < w7.heap.size := by rw [← hg]; exact Nat.lt_of_lt_of_le HX6.out.lt hb7.size
      have HB67 := Lib.hid (cur_step1 HB6.out hb7)
      have HB7 := Lib.hid (cur_step1 HB.out HB67.out)
      rw [hg]
      obtain ⟨xi, xe, xs⟩ := x
      dsimp only at k0 k20 q1 q2 hps HCAT HT htl HTX ⊢
      have d1 : (dcA xi).size ≤ 13 := by unfold dcA; rw [mk_size]; exact dcB_len (n := xi) q2
      have d2 : (sA (txtE xe)).size ≤ 200 := by unfold sA; rw [mk_size]; exact htl
      obtain ⟨S1, hS1⟩ : ∃ S1, dcA xi = S1 := ⟨_, rfl⟩
      obtain ⟨Z, hZ⟩ : ∃ Z, sA (txtE xe) = Z := ⟨_, rfl⟩
      obtain ⟨T, hT⟩ : ∃ T : ByteArray, (⟨(txtA (l.take k)).toArray⟩ : ByteArray) = T := ⟨_, rfl⟩
      have dT : T.size ≤ 1040000 := by rw [← hT, mk_size]; exact HTL.out
      rw [hS1] at d1
      rw [hZ] at d2
      rw [hS1, hZ, hT] at HCAT
      rw [hT]
      try rw [hZ]
      have HS1 := Lib.hid hS1
      have p1 : (9223372036854775807 < S1.size + 1) = False := by simp; omega
      have p2 : (9223372036854775807 < S1.size + 1 + xs.size) = False := by simp; omega
      have p3 : (9223372036854775807 < S1.size + 1 + xs.size + 1) = False := by simp; omega
      have p4 : (9223372036854775807 < S1.size + 1 + xs.size + 1 + Z.size) = False := by simp; omega
      have p5 : (9223372036854775807 < S1.size + 1 + xs.size + 1 + Z.size + 1) = False := by simp; omega
      have p6 : (9223372036854775807 < T.size + (S1.size + 1 + xs.size + 1 + Z.size + 1)) = False := by simp; omega
      obtain ⟨CS, hCS⟩ : ∃ CS : List (Nat × Nat × Value), CS = [(g, 0, .int .i64 xi), (g, 20, .string xs)] := ⟨_, rfl⟩
      have K3 := Lib.hid (show Keep w7 w7 CS by
        rw [hCS]
        refine ⟨Below.refl _ _, ?_⟩
        intro c hc
        simp only [List.mem_cons, List.mem_nil_iff, or_false] at hc
        rcases hc with rfl | rfl <;> exact ⟨by assumption, by assumption⟩)
      clear k0 k20
      have k0 : ∀ s : Wd w7 CS, s.w.cell? ⟨g, 0, none⟩ = some (.int .i64 xi) := fun s => s.h.get (by simp [hCS])
      have k1 : ∀ s : Wd w7 CS, s.w.cell? ⟨g, 20, none⟩ = some (.string xs) := fun s => s.h.get (by simp [hCS])
      have hex : ∀ s : Wd w7 CS, ∃ s' : Wd w7 CS, s.w = s'.w := fun s => ⟨s, rfl⟩
      haveI hne : Nonempty (Wd w7 CS) := ⟨⟨_, K3.out⟩⟩
      clear hCS
      clear hS1 hZ hT d1 d2 dT hps htl
      refine wp_region_wd w7 CS (by kernel_rfl) (by kernel_rfl) K3.out.drew ?_
      repeat (go_big_quiet_step ((go_at_call 26; refine (dec_rA _ (by omega) (by omega) _).mono ?_; rintro e w9 ⟨rfl, hb9⟩; rw [HS1.out]; exact ⟨rfl, ⟨w9, (Wd.h _).to hb9⟩, rfl⟩)))
      refine wpQuiet_nil ?_
      rintro w9 ⟨s9, hs9⟩
      have HB9 := Lib.hid (show Below w.heap.size w w9 by rw [hs9]; exact cur_step1 HB7.out s9.h.1)
      clear hs9 s9 k0 k1 hex hne K3 CS
      (try simp only [])
      go_wp2_with fail
      go_roundw
      case rel => exact ⟨k + 1, hlt, by simp, by rw [HT.out]; exact congrArg Value.string HCAT.out, HB9.out⟩
      case measure => simp [intOf]; omega
    · have hke : k = l.length := by omega
      subst hke
      rw [List.take_length]
      obtain ⟨T, hT⟩ : ∃ T : ByteArray, (⟨(txtA l).toArray⟩ : ByteArray) = T := ⟨_, rfl⟩
      have hTs : T.size = (txtA l).length := by rw [← hT, mk_size]
      rw [hT]
      by_cases h9 : 262144 < T.size
      · have hi : (262144 : Int) < (T.size : Int) := by omega
        have HE := Lib.hid (show TxtA l = ([], 9) by rw [HV.out, if_pos (by omega)])
        go_wp2_with fail
        go_ret2
        rw [HE.out]
        exact ⟨rfl, HB.out⟩
      · have hi : ¬ (262144 : Int) < (T.size : Int) := by omega
        have HE := Lib.hid (show TxtA l = (txtA l, 0) by rw [HV.out, if_neg (by omega)])
        go_wp2_with fail
        go_ret2
        rw [HE.out, ← hT]
        exact ⟨rfl, HB.out⟩
/-! The program. -/
def TpA (l : List Ent) (w : World) (b : Nat) (i : Value) (wr : World) : Prop := ∃ k : Nat, k ≤ l.length ∧ i = .int .i64 k ∧ Bld b b (txtA (l.take k)) wr ∧ Below w.heap.size w wr
theorem text_ap (A : Option Addr) (c : Nat) (l : List Ent) (w : World) (hl : l.length ≤ 1000000) (hr : Rd entE 21 w w.heap.size A l) (hsz : ∀ z ∈ l, z.sc.size ≤ 9223372036854775807) (hh : ∀ z ∈ l, 0 ≤ z.ev.ball.how) (hW : LibW w) :
    Calls Tryz.prog 7 #[.slice A l.length c] w fun e w' => e = .returned (.tuple #[.string ⟨(TxtA l).1.toArray⟩, .int .i64 (TxtA l).2]) ∧ Below w.heap.size w w' := by
  obtain ⟨e0, he0⟩ : ∃ e0, chkA l = e0 := ⟨_, rfl⟩
  have HR := Lib.hid hr
  have HSZ := Lib.hid hsz
  have HH := Lib.hid hh
  have HLW := Lib.hid hW
  have HCK := Lib.hid (chka_p l A c w hl hsz hr)
  rw [he0] at HCK
  clear hr hsz hh hW
  by_cases h0 : e0 ≠ 0
  · have e1 : (e0 != 0) = true := by simpa using h0
    have HV := Lib.hid (show TxtA l = ([], e0) by unfold TxtA; rw [he0, if_pos h0])
    clear h0
    go_enter Tryz.func7, Tryz.ntmps7
    go_wp2_with fail
    refine HCK.out.mono ?_
    rintro e w1 ⟨rfl, hb1⟩
    have HB := Lib.hid hb1
    clear hb1
    go_wp2_with fail
    go_ret2
    rw [HV.out]
    exact ⟨rfl, HB.out⟩
  have h0' : e0 = 0 := by simpa using h0
  subst h0'
  clear h0
  obtain ⟨h40, hok⟩ := okA_of he0
  have HOK := Lib.hid hok
  have HV := Lib.hid (show TxtA l = if 262144 < (txtA l).length then ([], 9) else (txtA l, 0) by unfold TxtA; rw [if_neg (by rw [he0]; decide)])
  have HTT := Lib.hid (txtA_len hok)
  clear hok he0
  go_enter Tryz.func7, Tryz.ntmps7
  go_wp2_with fail
  refine HCK.out.mono ?_
  rintro e w1 ⟨rfl, hb1⟩
  have HB := Lib.hid hb1
  have hbn := Bld.new w1
  have HB2 := Lib.hid (cur_step1 hb1 (cur_new w1 (.cells #[.pointer none, .slice none 0 0] 56)))
  have HBN := Lib.hid hbn
  have hBs := HB.out.size
  clear hb1 hbn HCK
  go_wp2_with fail
  generalize hbb : w1.heap.size = b at *
  go_loopw [17] (TpA l w b) (fun i _ => l.length - (intOf i).toNat)
  case atStart => exact ⟨0, by omega, rfl, HBN.out, HB2.out⟩
  case round =>
    obtain ⟨k, hk, rfl, hbl, hb⟩ := hrel
    clear HB HB2 HBN
    have HB := Lib.hid hb
    have HBL := Lib.hid hbl
    have HLWr := Lib.hid (HLW.out.to hb)
    obtain ⟨_, hblt⟩ := hbl.lt
    clear hb hbl
    by_cases hlt : k < l.length
    · obtain ⟨x, hx⟩ : ∃ x, l[k]? = some x := ⟨_, List.getElem?_eq_getElem hlt⟩
      obtain ⟨b2, off2, rfl, hb2l, hc2⟩ := HR.out k x hx
      have HRA := Lib.hid (show wr.rangeAt b2 (off2 + k * 21) (entE x) from fun j v hv => (HB.out.cell (p := ⟨b2, off2 + k * 21 + j, none⟩) hb2l).trans (hc2 j v hv))
      have hox := HOK.out x (List.mem_of_getElem? hx)
      have HXH := Lib.hid (HH.out x (List.mem_of_getElem? hx))
      have HT := Lib.hid (txtA_next hx)
      have HTL := Lib.hid (show (txtA (l.take k)).length ≤ 1040000 by
        have := txtA_len (f := l.take k) (fun y hy => HOK.out y (List.mem_of_mem_take hy))
        rw [List.length_take] at this
        omega)
      have HTX := Lib.hid (show TxtE x.ev = (txtE x.ev, 0) by unfold TxtE; rw [if_neg (by rw [hox.2.2]; decide)])
      have htl : (txtE x.ev).length ≤ 200 := txt_len (okE_of hox.2.2)
      obtain ⟨⟨q1, q2⟩, q3, q4⟩ := hox
      have hps : x.sc.size ≤ 16 := by unfold nameB at q3; simp at q3; omega
      have HCAT := Lib.hid (rowA_cat x)
      obtain ⟨W6, hW6⟩ : ∃ y, wr.alloc (.cells (entE x).toArray 40) = y := ⟨_, rfl⟩
      have HB6 := Lib.hid (show Below wr.heap.size wr W6 by rw [← hW6]; exact cur_new _ _)
      have HX6 := Lib.hid (show Blk W6 wr.heap.size 40 (entE x) by rw [← hW6]; exact Blk.new wr _ _)
      have S6 := Lib.hid hW6
      have HXN := Lib.hid (show W6.rangeAt wr.heap.size 1 (evE x.ev) from fun j v hv => by
        rw [HX6.out.cell]
        exact entE_ev x hv)
      clear hc2 hx hW6
      go_upto_region 8 with (first | (refine wpList_load_mid rfl 40 _ rfl b2 (off2 + k * 21) (by rfl) (entE x) _ HRA.out (by rfl) (by rfl) ent_info ?_) | (refine wpList_storeNew rfl _ _ 40 rfl _ (entE x).toArray ent_info (by rfl) (by rfl) rfl (ent_one _) ?_; rw [S6.out]))
      go_upto_region 11 with (first | (refine wpList_load_mid rfl 38 _ rfl wr.heap.size 1 (by rfl) (evE x.ev) _ HXN.out (by rfl) (by rfl) evt_info3 ?_) | (go_at_call 19; refine (text_p x.ev HXH.out W6 (HLWr.out.to HB6.out)).mono ?_; rw [HTX.out]; rintro e w7 ⟨rfl, hb7⟩))
      obtain ⟨g, hg⟩ : ∃ g, wr.heap.size = g := ⟨_, rfl⟩
      have HG := Lib.hid hg
      have k0 : w7.cell? ⟨g, 0, none⟩ = some (.int .i64 x.id) := by
        rw [← hg]
        exact (hb7.cell (p := ⟨wr.heap.size, 0, none⟩) HX6.out.lt).trans (by rw [HX6.out.cell]; rfl)
      have k20 : w7.cell? ⟨g, 20, none⟩ = some (.string x.sc) := by
        rw [← hg]
        exact (hb7.cell (p := ⟨wr.heap.size, 20, none⟩) HX6.out.lt).trans (by rw [HX6.out.cell]; rfl)
      have hg7 : g < w7.heap.size := by rw [← hg]; exact Nat.lt_of_lt_of_le HX6.out.lt hb7.size
      have HB67 := Lib.hid (cur_step1 HB6.out hb7)
      have HB7 := Lib.hid (cur_step1 HB.out HB67.out)
      rw [hg]
      obtain ⟨xi, xe, xs⟩ := x
      dsimp only at k0 k20 q1 q2 hps HCAT HT htl HTX ⊢
      have d1 : (dcA xi).size ≤ 13 := by unfold dcA; rw [mk_size]; exact dcB_len (n := xi) q2
      have d2 : (sA (txtE xe)).size ≤ 200 := by unfold sA; rw [mk_size]; exact htl
      obtain ⟨S1, hS1⟩ : ∃ S1, dcA xi = S1 := ⟨_, rfl⟩
      obtain ⟨Z, hZ⟩ : ∃ Z, sA (txtE xe) = Z := ⟨_, rfl⟩
      rw [hS1] at d1
      rw [hZ] at d2
      rw [hS1, hZ] at HCAT
      try rw [hZ]
      have HS1 := Lib.hid hS1
      have p1 : (9223372036854775807 < S1.size + 1) = False := by simp; omega
      have p2 : (9223372036854775807 < S1.size + 1 + xs.size) = False := by simp; omega
      have p3 : (9223372036854775807 < S1.size + 1 + xs.size + 1) = False := by simp; omega
      have p4 : (9223372036854775807 < S1.size + 1 + xs.size + 1 + Z.size) = False := by simp; omega
      have p5 : (9223372036854775807 < S1.size + 1 + xs.size + 1 + Z.size + 1) = False := by simp; omega
      have HDD := Lib.hid (And.intro d1 (And.intro d2 hps))
      obtain ⟨CS, hCS⟩ : ∃ CS : List (Nat × Nat × Value), CS = [(g, 0, .int .i64 xi), (g, 20, .string xs)] := ⟨_, rfl⟩
      have K3 := Lib.hid (show Keep w7 w7 CS by
        rw [hCS]
        refine ⟨Below.refl _ _, ?_⟩
        intro c hc
        simp only [List.mem_cons, List.mem_nil_iff, or_false] at hc
        rcases hc with rfl | rfl <;> exact ⟨by assumption, by assumption⟩)
      clear k0 k20
      have k0 : ∀ s : Wd w7 CS, s.w.cell? ⟨g, 0, none⟩ = some (.int .i64 xi) := fun s => s.h.get (by simp [hCS])
      have k1 : ∀ s : Wd w7 CS, s.w.cell? ⟨g, 20, none⟩ = some (.string xs) := fun s => s.h.get (by simp [hCS])
      have hex : ∀ s : Wd w7 CS, ∃ s' : Wd w7 CS, s.w = s'.w := fun s => ⟨s, rfl⟩
      haveI hne : Nonempty (Wd w7 CS) := ⟨⟨_, K3.out⟩⟩
      clear hCS
      clear hS1 hZ d1 d2 hps htl
      refine wp_region_lastL (C := fun w' => ∃ s : Wd w7 CS, w' = s.w) (by simp) (by kernel_rfl) (by kernel_rfl) (by kernel_rfl) ⟨⟨_, K3.out.drew⟩, rfl⟩ ?_
      simp only [List.dropLast_cons_cons, List.dropLast_singleton, List.getLast_cons_cons, List.getLast_singleton]
      repeat (go_big_quiet_step ((go_at_call 21; refine (dec_pA _ (by omega) (by omega) _ ((HLWr.out.to HB67.out).to (Wd.h _).1)).mono ?_; rintro e w9 ⟨rfl, hb9⟩; rw [HS1.out]; exact ⟨rfl, ⟨w9, (Wd.h _).to hb9⟩, rfl⟩)))
      refine wpQuiet_nil ?_
      rintro w9 ⟨s9, hs9⟩
      have hb9 : Below wr.heap.size wr w9 := by rw [hs9]; exact cur_step1 HB67.out s9.h.1
      have HB9 := Lib.hid (cur_step1 HB.out hb9)
      have HBL9 := Lib.hid (HBL.out.to hb9)
      have l9 := hb9.size
      clear hs9 s9 k0 k1 hex hne K3 CS hb9
      go_simp
      refine (Tryz.ws_p b b (txtA (l.take k)) _ w9 HBL9.out (by have h1 := HTL.out; obtain ⟨h2, h3, h4⟩ := HDD.out; simp only [ByteArray.size_append]; show _ + (S1.size + 1 + xs.size + 1 + Z.size + 1) ≤ _; omega) (by omega)).mono ?_
      rintro e w6 ⟨rfl, hbl6, hb6, hok6⟩
      rw [HCAT.out] at hbl6
      have HBL6 := Lib.hid hbl6
      have HB6z := Lib.hid (HB9.out.trans (hb6.mono (by omega)))
      clear hbl6 hb6 hok6
      (try simp only [])
      go_wp2_with fail
      go_roundw
      case rel => exact ⟨k + 1, hlt, by simp, by rw [HT.out]; exact HBL6.out, HB6z.out⟩
      case measure => simp [intOf]; omega
    · have hke : k = l.length := by omega
      subst hke
      have HTK := Lib.hid (show txtA (l.take l.length) = txtA l by rw [List.take_length])
      by_cases h9 : 262144 < (txtA l).length
      · have hi : (262144 : Int) < ((txtA l).length : Int) := by omega
        have HE := Lib.hid (show TxtA l = ([], 9) by rw [HV.out, if_pos h9])
        go_wp2_with (go_at_call 22; refine (Tryz.bl_p b b _ _ HBL.out).mono ?_; rintro e w6 ⟨rfl, rfl⟩; rw [HTK.out])
        go_ret2
        rw [HE.out]
        exact ⟨rfl, HB.out⟩
      · have hi : ¬ (262144 : Int) < ((txtA l).length : Int) := by omega
        have HE := Lib.hid (show TxtA l = (txtA l, 0) by rw [HV.out, if_neg h9])
        go_wp2_with (first
          | (go_at_call 22; refine (Tryz.bl_p b b _ _ HBL.out).mono ?_; rintro e w6 ⟨rfl, rfl⟩; rw [HTK.out])
          | (go_at_call 23; refine (Tryz.bs_p b b _ _ HBL.out (by omega)).mono ?_; rintro e w6 ⟨rfl, hb6⟩; have HB6 := Lib.hid (HB.out.trans (hb6.mono hBs)); clear hb6))
        go_ret2
        rw [HE.out, ← HTK.out]
        exact ⟨rfl, HB6.out⟩
end
end Go.Proofs.YtdbiihfoafoljaaGreatDoor
