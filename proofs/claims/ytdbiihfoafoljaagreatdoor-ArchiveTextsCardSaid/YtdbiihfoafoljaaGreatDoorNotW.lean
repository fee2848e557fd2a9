/-
  Chapter 7: the dismissal's part of a symbol.
-/
import Derived.Test.YtdbiihfoafoljaaGreatDoorNotS
import Derived.Test.YtdbiihfoafoljaaGreatDoorNumRE
import Derived.Deep.DeepCutAuto
import Derived.Deep.QuietTactic
import Derived.BigQuiet
set_option linter.unusedSimpArgs false
set_option linter.unusedVariables false
namespace Go.Proofs.YtdbiihfoafoljaaGreatDoor
open Go.RowKit
set_option maxRecDepth 100000
set_option maxHeartbeats 2000000
theorem dec_p (n : Int) (h0 : 0 ≤ n) (h1 : n ≤ 9223372036854775807) (w : World) (hw : LibW w) :
    Calls Tryz.prog 21 #[.int .i64 n] w fun e w' => e = .returned (.string (dcA n)) ∧ Below w.heap.size w w' := by
  have HW := Lib.hid hw
  have hi : Lib.itoa n = dcB n := by unfold Lib.itoa dcB; rw [if_neg (by omega)]
  have HI := Lib.hid (show (⟨(Lib.itoa n).toArray⟩ : ByteArray) = dcA n by unfold dcA; rw [hi])
  clear hw hi
  go_enter Tryz.func21, Tryz.ntmps21
  go_wp2_with fail
  refine (Tryz.fmt_p n (by omega) (by omega) _ HW.out.tab).mono ?_
  rw [HI.out]
  rintro e w1 ⟨rfl, hb1⟩
  have HB := Lib.hid hb1
  clear hb1
  go_wp2_with fail
  go_ret
  exact ⟨rfl, HB.out⟩
theorem dec_r (n : Int) (h0 : 0 ≤ n) (h1 : n ≤ 1000000000000000000) (w : World) :
    Calls Tryz.prog 26 #[.int .i64 n] w fun e w' => e = .returned (.string (dcA n)) ∧ Below w.heap.size w w' := by
  obtain ⟨m, rfl⟩ : ∃ m : Nat, n = m := ⟨n.toNat, by omega⟩
  unfold dcA dcB
  rw [Int.toNat_natCast]
  exact decimal_r m (by omega) w
theorem sA_app (a b : List UInt8) : sA a ++ sA b = sA (a ++ b) := by
  unfold sA
  ext1
  simp [ByteArray.data_append]
theorem dcA_eq (n : Int) : dcA n = sA (dcB n) := rfl
theorem wicket_p (d : Del) (hok : OkD d) (hh : 0 ≤ d.how) (w : World) (hw : LibW w) : Calls Tryz.prog 71 #[delV d] w fun e w' => e = .returned (.string (sA (wkL d))) ∧ Below w.heap.size w w' := by
  obtain ⟨ty, src, runs, short, bd, cr, how, vic, fd, sd, sub, sec⟩ := d
  have hk := hok.how
  obtain ⟨hv0, hv2⟩ := hok.vic
  obtain ⟨hf0, hf11⟩ := hok.fd
  obtain ⟨hs0, hs11⟩ := hok.sd
  dsimp only at hk hv0 hv2 hf0 hf11 hs0 hs11 hh
  clear hok
  have HL := Lib.hid hw
  clear hw
  unfold delV
  dsimp only
  obtain ⟨w1, hw1⟩ : ∃ w1, w.alloc (.cells #[.int .u8 ty, .int .u8 src, .int .i64 runs, .int .i64 short, .int .i64 bd, .bool cr, .int .u8 how, .int .i64 vic, .int .i64 fd, .int .i64 sd, .bool sub, .int .i64 sec] 36) = w1 := ⟨_, rfl⟩
  have hd : DBox w w1 ⟨ty, src, runs, short, bd, cr, how, vic, fd, sd, sub, sec⟩ := by rw [← hw1]; exact DBox.new ⟨ty, src, runs, short, bd, cr, how, vic, fd, sd, sub, sec⟩ w
  obtain ⟨c0, c1, c2, c3, c4, c5, c6, c7, c8, c9, c10, c11⟩ := hd.cells
  dsimp only at c0 c1 c2 c3 c4 c5 c6 c7 c8 c9 c10 c11
  have hlt := hd.lt
  have HD := Lib.hid hd
  have HW1 := Lib.hid hw1
  clear hd hw1
  have HLW : Hid (LibW w1) := Lib.hid (HL.out.to HD.out.below)
  obtain ⟨fl, hfl⟩ : ∃ b, ((fd != 0) || ((sd != 0) || sub)) = b := ⟨_, rfl⟩
  have HFL := Lib.hid hfl
  clear hfl
  go_enter Tryz.func71, Tryz.ntmps71
  go_upto_region 1 with (rw [HW1.out])
  go_cut [3] (fun v wx => v = .bool fl ∧ w1 = wx)
  case first =>
    by_cases k1 : fd = 0
    · have g1 : (fd != 0) = false := by simpa using k1
      by_cases k2 : sd = 0
      · have g2 : (sd != 0) = false := by simpa using k2
        clear k1 k2
        go_wp2_with fail
        go_meet
        case rel => exact ⟨by rw [← HFL.out, g1, g2]; rfl, rfl⟩
      · have g2 : (sd != 0) = true := by simpa using k2
        clear k1 k2
        go_wp2_with fail
        go_meet
        case rel => exact ⟨by rw [← HFL.out, g1, g2]; rfl, rfl⟩
    · have g1 : (fd != 0) = true := by simpa using k1
      clear k1
      go_wp2_with fail
      go_meet
      case rel => exact ⟨by rw [← HFL.out, g1]; rfl, rfl⟩
  case rest =>
  obtain ⟨hv, hx⟩ := hcut
  subst hv hx
  go_upto_region 2 with fail
  obtain ⟨em, hem⟩ : ∃ b, ((how == 0) && ((vic == 0) && !fl)) = b := ⟨_, rfl⟩
  have HEM := Lib.hid hem
  clear hem
  go_cut [28] (fun v wx => v = .bool em ∧ w1 = wx)
  case first =>
    by_cases k1 : how = 0
    · have g1 : (how == 0) = true := by simpa using k1
      by_cases k2 : vic = 0
      · have g2 : (vic == 0) = true := by simpa using k2
        clear k1 k2
        go_wp2_with fail
        go_meet
        case rel => exact ⟨by rw [← HEM.out, g1, g2]; rfl, rfl⟩
      · have g2 : (vic == 0) = false := by simpa using k2
        clear k1 k2
        go_wp2_with fail
        go_meet
        case rel => exact ⟨by rw [← HEM.out, g1, g2]; rfl, rfl⟩
    · have g1 : (how == 0) = false := by simpa using k1
      clear k1
      go_wp2_with fail
      go_meet
      case rel => exact ⟨by rw [← HEM.out, g1]; rfl, rfl⟩
  case rest =>
  obtain ⟨hv, hx⟩ := hcut
  subst hv hx
  cases em
  · go_upto_region 4 with fail
    obtain ⟨s1, hs1⟩ : ∃ x, sA (47 :: letL how :: dg vic) = x := ⟨_, rfl⟩
    have HS1 := Lib.hid hs1
    clear hs1
    obtain ⟨v1, hv1⟩ : ∃ x, sA (dg vic) = x := ⟨_, rfl⟩
    have hz1 : v1.size = 1 := by rw [← hv1]; rfl
    have q1 : (9223372036854775807 < 2 + v1.size) = False := by simp; omega
    have q2 : (9223372036854775807 < 1 + 1 + v1.size) = False := by simp; omega
    have HV1 := Lib.hid hv1
    have HZ1 := Lib.hid hz1
    clear hv1 hz1
    go_cut [4] (fun v wx => v = .string s1 ∧ DBox w wx ⟨ty, src, runs, short, bd, cr, how, vic, fd, sd, sub, sec⟩)
    case first =>
      rcases (by omega : how = 0 ∨ how = 1 ∨ how = 2 ∨ how = 3 ∨ how = 4 ∨ how = 5 ∨ how = 6 ∨ how = 7 ∨ how = 8 ∨ how = 9 ∨ how = 10) with rfl | rfl | rfl | rfl | rfl | rfl | rfl | rfl | rfl | rfl | rfl <;>
      · go_quiet ((go_at_call 70; refine (digit_p _ (by omega) (by omega) _).mono ?_; rintro e w9 ⟨rfl, rfl⟩; rw [HV1.out]; exact ⟨rfl, _, rfl⟩))
        go_wp2_with fail
        go_meet
        case rel => exact ⟨by rw [← HS1.out, ← HV1.out]; rfl, HD.out.to (cur_drew _ _)⟩
    case rest =>
    obtain ⟨hv, hd2⟩ := hcut
    subst hv
    have HLW2 : Hid (LibW wc) := Lib.hid (HL.out.to hd2.below)
    clear c0 c1 c2 c3 c4 c5 c6 c7 c8 c9 c10 c11 hlt HLW q1 q2 HV1 HZ1 v1
    obtain ⟨c0, c1, c2, c3, c4, c5, c6, c7, c8, c9, c10, c11⟩ := hd2.cells
    dsimp only at c0 c1 c2 c3 c4 c5 c6 c7 c8 c9 c10 c11
    have hlt := hd2.lt
    have HD2 := Lib.hid hd2
    clear hd2
    cases fl
    · go_wp2_with fail
      go_ret
      refine ⟨?_, HD2.out.below⟩
      rw [← HS1.out]
      have h1 := HEM.out
      have h2 := HFL.out
      unfold wkL fdL fldB
      dsimp only
      rw [h2]
      simp at h1
      rw [if_neg (by simpa using h1)]
      simp
    · obtain ⟨f1, hf1⟩ : ∃ x, dcA fd = x := ⟨_, rfl⟩
      obtain ⟨f2, hf2⟩ : ∃ x, dcA sd = x := ⟨_, rfl⟩
      have z0 : s1.size = 3 := by rw [← HS1.out]; rfl
      have z1 : f1.size ≤ 20 := by rw [← hf1]; unfold dcA; rw [mk_size]; have := dcB_len7 (n := fd) (by omega); omega
      have z2 : f2.size ≤ 20 := by rw [← hf2]; unfold dcA; rw [mk_size]; have := dcB_len7 (n := sd) (by omega); omega
      have q1 : (9223372036854775807 < 1 + f1.size) = False := by simp; omega
      have q2 : (9223372036854775807 < s1.size + (1 + f1.size)) = False := by simp; omega
      have q3 : (9223372036854775807 < 1 + f2.size) = False := by simp; omega
      have q4 : (9223372036854775807 < s1.size + (1 + f1.size) + (1 + f2.size)) = False := by simp; omega
      have q5 : (9223372036854775807 < s1.size + (1 + f1.size) + (1 + f2.size) + 1) = False := by simp; omega
      have q6 : (9223372036854775807 < s1.size + (1 + f1.size) + (1 + f2.size) + 1 + 1) = False := by simp; omega
      have q7 : (9223372036854775807 < s1.size + (1 + f1.size) + 1) = False := by simp; omega
      have q8 : (9223372036854775807 < s1.size + (1 + f1.size) + 1 + 1) = False := by simp; omega
      have HF1 := Lib.hid hf1
      have HF2 := Lib.hid hf2
      clear hf1 hf2 z0 z1 z2
      cases sub
      · by_cases k2 : sd = 0
        · have g2 : (sd != 0) = false := by simpa using k2
          have K2 := Lib.hid k2
          clear k2
          go_wp2_with fail
          refine (dec_p fd (by omega) (by omega) _ HLW2.out).mono ?_
          rintro e w9 ⟨rfl, hb9⟩
          rw [HF1.out]
          have hd9 := HD2.out.to hb9
          clear c0 c1 c2 c3 c4 c5 c6 c7 c8 c9 c10 c11 hlt
          obtain ⟨c0, c1, c2, c3, c4, c5, c6, c7, c8, c9, c10, c11⟩ := hd9.cells
          dsimp only at c0 c1 c2 c3 c4 c5 c6 c7 c8 c9 c10 c11
          have hlt := hd9.lt
          have HD3 := Lib.hid hd9
          have HLW2x : Hid (LibW w9) := Lib.hid (HLW2.out.to hb9)
          clear hb9 hd9
          go_wp2_with fail
          go_ret
          refine ⟨?_, HD3.out.below⟩
          rw [← HS1.out, ← HF1.out]
          unfold wkL fdL fldB
          dsimp only
          rw [if_neg (by have h1 := HFL.out; intro h; rw [h1] at h; exact Bool.noConfusion h.2.2)]
          have h1 := HFL.out
          rw [h1, if_pos rfl]
          rw [if_neg (fun h => h K2.out)]
          rw [dcA_eq]
          show Ending.returned (.string _) = _
          congr 2
          all_goals (apply ByteArray.ext; simp [sA, ByteArray.data_append, dcA])
        · have g2 : (sd != 0) = true := by simpa using k2
          have K2 := Lib.hid k2
          clear k2
          go_wp2_with fail
          refine (dec_p fd (by omega) (by omega) _ HLW2.out).mono ?_
          rintro e w9 ⟨rfl, hb9⟩
          rw [HF1.out]
          have hd9 := HD2.out.to hb9
          clear c0 c1 c2 c3 c4 c5 c6 c7 c8 c9 c10 c11 hlt
          obtain ⟨c0, c1, c2, c3, c4, c5, c6, c7, c8, c9, c10, c11⟩ := hd9.cells
          dsimp only at c0 c1 c2 c3 c4 c5 c6 c7 c8 c9 c10 c11
          have hlt := hd9.lt
          have HD3 := Lib.hid hd9
          have HLW2x : Hid (LibW w9) := Lib.hid (HLW2.out.to hb9)
          clear hb9 hd9
          go_wp2_with fail
          refine (dec_p sd (by omega) (by omega) _ HLW2x.out).mono ?_
          rintro e w10 ⟨rfl, hb9⟩
          rw [HF2.out]
          have hd9 := HD3.out.to hb9
          clear c0 c1 c2 c3 c4 c5 c6 c7 c8 c9 c10 c11 hlt
          obtain ⟨c0, c1, c2, c3, c4, c5, c6, c7, c8, c9, c10, c11⟩ := hd9.cells
          dsimp only at c0 c1 c2 c3 c4 c5 c6 c7 c8 c9 c10 c11
          have hlt := hd9.lt
          have HD4 := Lib.hid hd9
          have HLW2xx : Hid (LibW w10) := Lib.hid (HLW2x.out.to hb9)
          clear hb9 hd9
          go_wp2_with fail
          go_ret
          refine ⟨?_, HD4.out.below⟩
          rw [← HS1.out, ← HF1.out]
          rw [← HF2.out]
          unfold wkL fdL fldB
          dsimp only
          rw [if_neg (by have h1 := HFL.out; intro h; rw [h1] at h; exact Bool.noConfusion h.2.2)]
          have h1 := HFL.out
          rw [h1, if_pos rfl]
          rw [if_pos K2.out]
          rw [dcA_eq]
          show Ending.returned (.string _) = _
          congr 2
          all_goals (apply ByteArray.ext; simp [sA, ByteArray.data_append, dcA])
      · by_cases k2 : sd = 0
        · have g2 : (sd != 0) = false := by simpa using k2
          have K2 := Lib.hid k2
          clear k2
          go_wp2_with fail
          refine (dec_p fd (by omega) (by omega) _ HLW2.out).mono ?_
          rintro e w9 ⟨rfl, hb9⟩
          rw [HF1.out]
          have hd9 := HD2.out.to hb9
          clear c0 c1 c2 c3 c4 c5 c6 c7 c8 c9 c10 c11 hlt
          obtain ⟨c0, c1, c2, c3, c4, c5, c6, c7, c8, c9, c10, c11⟩ := hd9.cells
          dsimp only at c0 c1 c2 c3 c4 c5 c6 c7 c8 c9 c10 c11
          have hlt := hd9.lt
          have HD3 := Lib.hid hd9
          have HLW2x : Hid (LibW w9) := Lib.hid (HLW2.out.to hb9)
          clear hb9 hd9
          go_wp2_with fail
          go_ret
          refine ⟨?_, HD3.out.below⟩
          rw [← HS1.out, ← HF1.out]
          unfold wkL fdL fldB
          dsimp only
          rw [if_neg (by have h1 := HFL.out; intro h; rw [h1] at h; exact Bool.noConfusion h.2.2)]
          have h1 := HFL.out
          rw [h1, if_pos rfl]
          rw [if_neg (fun h => h K2.out)]
          rw [dcA_eq]
          show Ending.returned (.string _) = _
          congr 2
          all_goals (apply ByteArray.ext; simp [sA, ByteArray.data_append, dcA])
        · have g2 : (sd != 0) = true := by simpa using k2
          have K2 := Lib.hid k2
          clear k2
          go_wp2_with fail
          refine (dec_p fd (by omega) (by omega) _ HLW2.out).mono ?_
          rintro e w9 ⟨rfl, hb9⟩
          rw [HF1.out]
          have hd9 := HD2.out.to hb9
          clear c0 c1 c2 c3 c4 c5 c6 c7 c8 c9 c10 c11 hlt
          obtain ⟨c0, c1, c2, c3, c4, c5, c6, c7, c8, c9, c10, c11⟩ := hd9.cells
          dsimp only at c0 c1 c2 c3 c4 c5 c6 c7 c8 c9 c10 c11
          have hlt := hd9.lt
          have HD3 := Lib.hid hd9
          have HLW2x : Hid (LibW w9) := Lib.hid (HLW2.out.to hb9)
          clear hb9 hd9
          go_wp2_with fail
          refine (dec_p sd (by omega) (by omega) _ HLW2x.out).mono ?_
          rintro e w10 ⟨rfl, hb9⟩
          rw [HF2.out]
          have hd9 := HD3.out.to hb9
          clear c0 c1 c2 c3 c4 c5 c6 c7 c8 c9 c10 c11 hlt
          obtain ⟨c0, c1, c2, c3, c4, c5, c6, c7, c8, c9, c10, c11⟩ := hd9.cells
          dsimp only at c0 c1 c2 c3 c4 c5 c6 c7 c8 c9 c10 c11
          have hlt := hd9.lt
          have HD4 := Lib.hid hd9
          have HLW2xx : Hid (LibW w10) := Lib.hid (HLW2x.out.to hb9)
          clear hb9 hd9
          go_wp2_with fail
          go_ret
          refine ⟨?_, HD4.out.below⟩
          rw [← HS1.out, ← HF1.out]
          rw [← HF2.out]
          unfold wkL fdL fldB
          dsimp only
          rw [if_neg (by have h1 := HFL.out; intro h; rw [h1] at h; exact Bool.noConfusion h.2.2)]
          have h1 := HFL.out
          rw [h1, if_pos rfl]
          rw [if_pos K2.out]
          rw [dcA_eq]
          show Ending.returned (.string _) = _
          congr 2
          all_goals (apply ByteArray.ext; simp [sA, ByteArray.data_append, dcA])
  · go_wp2_with fail
    go_ret
    have h1 := HEM.out
    have h2 := HFL.out
    refine ⟨?_, HD.out.below⟩
    unfold wkL fldB
    dsimp only
    rw [h2]
    simp at h1
    rw [if_pos (by simp [h1])]
    rfl
end Go.Proofs.YtdbiihfoafoljaaGreatDoor
