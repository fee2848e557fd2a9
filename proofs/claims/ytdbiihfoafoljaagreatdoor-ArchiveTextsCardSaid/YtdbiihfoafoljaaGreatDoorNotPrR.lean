/-
  Chapter 7: the symbol of a delivery, by the reference.
-/
import Derived.Test.YtdbiihfoafoljaaGreatDoorNotPr
set_option linter.unusedSimpArgs false
set_option linter.unusedVariables false
namespace Go.Proofs.YtdbiihfoafoljaaGreatDoor
open Go.RowKit
set_option maxRecDepth 100000
set_option maxHeartbeats 4000000
theorem wrap_how {n : Int} (h0 : 0 ≤ n) (h1 : n ≤ 10) : IntKind.u8.wrap (n + 1) = n + 1 := by
  have : n = 0 ∨ n = 1 ∨ n = 2 ∨ n = 3 ∨ n = 4 ∨ n = 5 ∨ n = 6 ∨ n = 7 ∨ n = 8 ∨ n = 9 ∨ n = 10 := by omega
  rcases this with rfl | rfl | rfl | rfl | rfl | rfl | rfl | rfl | rfl | rfl | rfl <;> rfl
theorem slice_how {n : Int} (h0 : 0 ≤ n) (h1 : n ≤ 10) : (⟨#[78, 66, 67, 76, 83, 72, 82, 84, 79, 77, 81]⟩ : ByteArray).extract n.toNat (n + 1).toNat = sA [letL n] := by
  have : n = 0 ∨ n = 1 ∨ n = 2 ∨ n = 3 ∨ n = 4 ∨ n = 5 ∨ n = 6 ∨ n = 7 ∨ n = 8 ∨ n = 9 ∨ n = 10 := by omega
  rcases this with rfl | rfl | rfl | rfl | rfl | rfl | rfl | rfl | rfl | rfl | rfl <;> rfl
theorem typeOf_r (t : Int) (w : World) : Calls Tryz.prog 80 #[.int .u8 t] w fun e w' => e = .returned (.string (sA (tyL t))) ∧ w = w' := by
  by_cases h2 : t = 2
  · subst h2
    go_enter Tryz.func80, Tryz.ntmps80
    go_wp2_with fail
    go_ret
    exact ⟨rfl, rfl⟩
  by_cases h3 : t = 3
  · subst h3
    go_enter Tryz.func80, Tryz.ntmps80
    go_wp2_with fail
    go_ret
    exact ⟨rfl, rfl⟩
  have g2 : (t == 2) = false := by simpa using h2
  have g3 : (t == 3) = false := by simpa using h3
  have HT := Lib.hid (And.intro h2 h3)
  clear h2 h3
  go_enter Tryz.func80, Tryz.ntmps80
  go_wp2_with fail
  go_ret
  exact ⟨by unfold tyL; rw [if_neg HT.out.1, if_neg HT.out.2]; rfl, rfl⟩
theorem sourceOf_r (t s : Int) (w : World) : Calls Tryz.prog 79 #[.int .u8 t, .int .u8 s] w fun e w' => e = .returned (.string (sA (srcL t s))) ∧ w = w' := by
  by_cases h2 : s = 2
  · subst h2
    go_enter Tryz.func79, Tryz.ntmps79
    go_wp2_with fail
    go_ret
    exact ⟨rfl, rfl⟩
  by_cases h3 : s = 3
  · subst h3
    go_enter Tryz.func79, Tryz.ntmps79
    go_wp2_with fail
    go_ret
    exact ⟨rfl, rfl⟩
  have g2 : (s == 2) = false := by simpa using h2
  have g3 : (s == 3) = false := by simpa using h3
  have HS := Lib.hid (And.intro h2 h3)
  clear h2 h3
  by_cases k2 : t = 2
  · subst k2
    by_cases k1 : s = 1
    · have k3 : (s == 1) = true := by simpa using k1
      have K1 := Lib.hid k1
      clear k1
      go_enter Tryz.func79, Tryz.ntmps79
      go_wp2_with fail
      go_ret
      exact ⟨by unfold srcL; rw [if_neg HS.out.1, if_neg HS.out.2, if_pos rfl, if_pos K1.out]; rfl, rfl⟩
    · have k3 : (s == 1) = false := by simpa using k1
      have K1 := Lib.hid k1
      clear k1
      go_enter Tryz.func79, Tryz.ntmps79
      go_wp2_with fail
      go_ret
      exact ⟨by unfold srcL; rw [if_neg HS.out.1, if_neg HS.out.2, if_pos rfl, if_neg K1.out]; rfl, rfl⟩
  · have m1 : (t == 2) = false := by simpa using k2
    have m2 : (t != 2) = true := by simpa using k2
    have K2 := Lib.hid k2
    clear k2
    by_cases k1 : s = 0
    · have k3 : (s == 0) = true := by simpa using k1
      have K1 := Lib.hid k1
      clear k1
      go_enter Tryz.func79, Tryz.ntmps79
      go_wp2_with fail
      go_ret
      exact ⟨by unfold srcL; rw [if_neg HS.out.1, if_neg HS.out.2, if_neg K2.out, if_pos K1.out]; rfl, rfl⟩
    · have k3 : (s == 0) = false := by simpa using k1
      have K1 := Lib.hid k1
      clear k1
      go_enter Tryz.func79, Tryz.ntmps79
      go_wp2_with fail
      go_ret
      exact ⟨by unfold srcL; rw [if_neg HS.out.1, if_neg HS.out.2, if_neg K2.out, if_neg K1.out]; rfl, rfl⟩
theorem dec7_r (n : Int) (h0 : 0 ≤ n) (h1 : n ≤ 1000) (w : World) : Calls Tryz.prog 81 #[.int .i64 n] w fun e w' => e = .returned (.string (sA (dcB n))) ∧ Below w.heap.size w w' := by
  obtain ⟨s1, hs1⟩ : ∃ x, sA (dcB n) = x := ⟨_, rfl⟩
  have HS1 := Lib.hid (show dcA n = s1 by rw [dcA_eq, hs1])
  rw [hs1]
  clear hs1
  go_enter Tryz.func81, Tryz.ntmps81
  go_wp2_with fail
  refine (dec_r n h0 (by omega) _).mono ?_
  rintro e w1 ⟨rfl, hb1⟩
  rw [HS1.out]
  have HB := Lib.hid hb1
  clear hb1
  go_wp2_with fail
  go_ret
  exact ⟨rfl, HB.out⟩
theorem dec7_d (n : Int) (h0 : 0 ≤ n) (h1 : n ≤ 9) (w : World) : Calls Tryz.prog 81 #[.int .i64 n] w fun e w' => e = .returned (.string (sA (dg n))) ∧ Below w.heap.size w w' := by
  rw [← dcB_small h0 h1]
  exact dec7_r n h0 (by omega) w
theorem printr_e (d : Del) (v : Int) (hc : chkD d = v) (hv : v ≠ 0) (w : World) : Calls Tryz.prog 52 #[delV d] w fun e w' => e = .returned (.tuple #[.string ⟨#[]⟩, .int .i64 v]) ∧ Below w.heap.size w w' := by
  have hb : (v != 0) = true := by simpa using hv
  have HC := Lib.hid hc
  clear hc hv
  obtain ⟨ty, src, runs, short, bd, cr, how, vic, fd, sd, sub, sec⟩ := d
  unfold delV
  dsimp only
  obtain ⟨w1, hw1⟩ : ∃ w1, w.alloc (.cells #[.int .u8 ty, .int .u8 src, .int .i64 runs, .int .i64 short, .int .i64 bd, .bool cr, .int .u8 how, .int .i64 vic, .int .i64 fd, .int .i64 sd, .bool sub, .int .i64 sec] 36) = w1 := ⟨_, rfl⟩
  have hd : DBox w w1 ⟨ty, src, runs, short, bd, cr, how, vic, fd, sd, sub, sec⟩ := by rw [← hw1]; exact DBox.new ⟨ty, src, runs, short, bd, cr, how, vic, fd, sd, sub, sec⟩ w
  obtain ⟨c0, c1, c2, c3, c4, c5, c6, c7, c8, c9, c10, c11⟩ := hd.cells
  dsimp only at c0 c1 c2 c3 c4 c5 c6 c7 c8 c9 c10 c11
  have hlt := hd.lt
  have HD := Lib.hid hd
  have HW1 := Lib.hid hw1
  clear hd hw1
  go_enter Tryz.func52, Tryz.ntmps52
  go_wp2_with (rw [HW1.out])
  refine (chk_r ⟨ty, src, runs, short, bd, cr, how, vic, fd, sd, sub, sec⟩ _).mono ?_
  rintro e w2 ⟨rfl, hb2⟩
  rw [HC.out]
  have HB2 := Lib.hid (cur_step1 HD.out.below hb2)
  clear hb2
  go_wp2_with fail
  go_ret2
  exact ⟨rfl, HB2.out⟩
theorem printr_p (d : Del) (hc : chkD d = 0) (hh : 0 ≤ d.how) (w : World) : Calls Tryz.prog 52 #[delV d] w fun e w' => e = .returned (.tuple #[.string (sA (prtD d)), .int .i64 0]) ∧ Below w.heap.size w w' := by
  have HOK := Lib.hid (okD_of hc)
  have HC := Lib.hid hc
  clear hc
  obtain ⟨ty, src, runs, short, bd, cr, how, vic, fd, sd, sub, sec⟩ := d
  have hbd := HOK.out.bd
  have h10 := HOK.out.how
  obtain ⟨r0, r7⟩ := HOK.out.runs
  obtain ⟨s0, s7⟩ := HOK.out.short
  obtain ⟨x0, x8⟩ := HOK.out.sec
  obtain ⟨v0, v2⟩ := HOK.out.vic
  obtain ⟨f0, f11⟩ := HOK.out.fd
  obtain ⟨d0, d11⟩ := HOK.out.sd
  dsimp only at hbd r0 r7 s0 s7 x0 x8 v0 v2 f0 f11 d0 d11 h10 hh
  have HBD := Lib.hid hbd
  clear hbd
  unfold delV
  dsimp only
  obtain ⟨w1, hw1⟩ : ∃ w1, w.alloc (.cells #[.int .u8 ty, .int .u8 src, .int .i64 runs, .int .i64 short, .int .i64 bd, .bool cr, .int .u8 how, .int .i64 vic, .int .i64 fd, .int .i64 sd, .bool sub, .int .i64 sec] 36) = w1 := ⟨_, rfl⟩
  have hd : DBox w w1 ⟨ty, src, runs, short, bd, cr, how, vic, fd, sd, sub, sec⟩ := by rw [← hw1]; exact DBox.new ⟨ty, src, runs, short, bd, cr, how, vic, fd, sd, sub, sec⟩ w
  obtain ⟨c0, c1, c2, c3, c4, c5, c6, c7, c8, c9, c10, c11⟩ := hd.cells
  dsimp only at c0 c1 c2 c3 c4 c5 c6 c7 c8 c9 c10 c11
  have hlt := hd.lt
  have HD := Lib.hid hd
  have HW1 := Lib.hid hw1
  clear hd hw1
  go_enter Tryz.func52, Tryz.ntmps52
  go_wp2_with (rw [HW1.out])
  refine (chk_r ⟨ty, src, runs, short, bd, cr, how, vic, fd, sd, sub, sec⟩ _).mono ?_
  rintro e w2 ⟨rfl, hb2⟩
  rw [HC.out]
  have hd2 := HD.out.to hb2
  clear c0 c1 c2 c3 c4 c5 c6 c7 c8 c9 c10 c11 hlt
  obtain ⟨c0, c1, c2, c3, c4, c5, c6, c7, c8, c9, c10, c11⟩ := hd2.cells
  dsimp only at c0 c1 c2 c3 c4 c5 c6 c7 c8 c9 c10 c11
  have hlt := hd2.lt
  have HD2 := Lib.hid hd2
  clear hd2
  clear hb2
  obtain ⟨t1, ht1⟩ : ∃ x, sA (tyL ty) = x := ⟨_, rfl⟩
  obtain ⟨f1, hf1⟩ : ∃ x, sA (srcL ty src) = x := ⟨_, rfl⟩
  obtain ⟨s1, hs1⟩ : ∃ x, sA (tyL ty ++ srcL ty src) = x := ⟨_, rfl⟩
  have z1 : t1.size ≤ 1 := by rw [← ht1, sA_size]; exact tyL_len ty
  have z2 : f1.size ≤ 1 := by rw [← hf1, sA_size]; exact srcL_len ty src
  have e1 : t1 ++ f1 = s1 := by rw [← ht1, ← hf1, ← hs1, sA_app]
  have z3 : s1.size ≤ 2 := by rw [← e1, ByteArray.size_append]; omega
  have q1 : (9223372036854775807 < t1.size + f1.size) = False := lt_no (by omega)
  have Ht1 := Lib.hid ht1
  clear ht1
  have Hf1 := Lib.hid hf1
  clear hf1
  have Hs1 := Lib.hid hs1
  clear hs1
  have E1 := Lib.hid e1
  clear e1
  go_wp2_with fail
  refine (sourceOf_r ty src _).mono ?_
  rintro e w5 ⟨rfl, rfl⟩
  rw [Hf1.out]
  go_wp2_with fail
  refine (typeOf_r ty _).mono ?_
  rintro e w5 ⟨rfl, rfl⟩
  rw [Ht1.out]
  go_upto_region 6 with fail
  rw [E1.out]
  obtain ⟨rb, hrb⟩ : ∃ b, (decide (0 < runs) || (srcL ty src == [] && (bd == 0 && ty != 2))) = b := ⟨_, rfl⟩
  have Hrb := Lib.hid hrb
  clear hrb
  go_cut [38] (fun v wx => v = .bool rb ∧ w2 = wx)
  case first =>
    by_cases k1 : 0 < runs
    · have g1 : decide (0 < runs) = true := by simpa using k1
      clear k1
      go_wp2_with fail
      go_meet
      case rel => exact ⟨by rw [← Hrb.out, g1]; rfl, rfl⟩
    have g1 : decide (0 < runs) = false := by simpa using k1
    clear k1
    rcases srcL_cases ty src with he | ⟨c, he⟩
    · have k2 : f1.toList.isEmpty = true := by rw [emp_size, ← Hf1.out, he]; rfl
      have k3 : (f1 == (⟨#[]⟩ : ByteArray)) = true := by rw [← Hf1.out, he]; rfl
      have HE := Lib.hid he
      clear he
      by_cases k4 : bd = 0
      · have g4 : (bd == 0) = true := by simpa using k4
        clear k4
        by_cases k5 : ty = 2
        · have g5 : (ty != 2) = false := by simpa using k5
          clear k5
          go_wp2_with fail
          go_meet
          case rel => exact ⟨by rw [← Hrb.out, g1, HE.out, g4, g5]; rfl, rfl⟩
        · have g5 : (ty != 2) = true := by simpa using k5
          clear k5
          go_wp2_with fail
          go_meet
          case rel => exact ⟨by rw [← Hrb.out, g1, HE.out, g4, g5]; rfl, rfl⟩
      · have g4 : (bd == 0) = false := by simpa using k4
        clear k4
        go_wp2_with fail
        go_meet
        case rel => exact ⟨by rw [← Hrb.out, g1, HE.out, g4]; rfl, rfl⟩
    · have k2 : f1.toList.isEmpty = false := by rw [emp_size, ← Hf1.out, he]; rfl
      have k3 : (f1 == (⟨#[]⟩ : ByteArray)) = false := by rw [← Hf1.out, he]; rfl
      have HE := Lib.hid he
      clear he
      go_wp2_with fail
      go_meet
      case rel => exact ⟨by rw [← Hrb.out, g1, HE.out]; rfl, rfl⟩
  case rest =>
  obtain ⟨hv, hx⟩ := hcut
  subst hv hx
  go_upto_if 38 with fail
  obtain ⟨s2, hs2⟩ : ∃ x, sA (tyL ty ++ (srcL ty src ++ runL ⟨ty, src, runs, short, bd, cr, how, vic, fd, sd, sub, sec⟩)) = x := ⟨_, rfl⟩
  obtain ⟨d1, hd1⟩ : ∃ x, sA (dg runs) = x := ⟨_, rfl⟩
  have z4 : s2.size ≤ 3 := by rw [← hs2, sA_size]; simp only [List.length_append]; have l1 := tyL_len ty; have l2 := srcL_len ty src; have l3 := runL_len ⟨ty, src, runs, short, bd, cr, how, vic, fd, sd, sub, sec⟩; have l4 := bdL_len bd; have l5 := shL_len short; have l6 := crL_len cr; have l7 := wkL_len HOK.out; omega
  have z5 : d1.size = 1 := by rw [← hd1]; rfl
  have q2 : (9223372036854775807 < s1.size + d1.size) = False := lt_no (by omega)
  have Hs2 := Lib.hid hs2
  clear hs2
  have Hd1 := Lib.hid hd1
  clear hd1
  go_cut [6] (fun v wx => v = .string s2 ∧ DBox w wx ⟨ty, src, runs, short, bd, cr, how, vic, fd, sd, sub, sec⟩)
  case first =>
    cases rb
    · go_wp2_with fail
      go_meet
      case rel => exact ⟨by rw [← Hs2.out, ← Hs1.out]; have h := Hrb.out; simp at h; unfold runL; rw [if_neg (by simpa using h)]; simp, HD2.out⟩
    · go_wp2_with fail
      refine (dec7_d runs r0 (by omega) _).mono ?_
      rintro e w2 ⟨rfl, hb2⟩
      rw [Hd1.out]
      have HB2 := Lib.hid hb2
      clear hb2
      go_wp2_with fail
      go_meet
      case rel => exact ⟨by rw [← Hs2.out, ← Hs1.out, ← Hd1.out, sA_app]; have h := Hrb.out; simp at h; unfold runL; rw [if_pos (by simpa using h)]; simp, HD2.out.to HB2.out⟩
  case rest =>
  obtain ⟨hv, hd3⟩ := hcut
  subst hv
  clear c0 c1 c2 c3 c4 c5 c6 c7 c8 c9 c10 c11 hlt
  obtain ⟨c0, c1, c2, c3, c4, c5, c6, c7, c8, c9, c10, c11⟩ := hd3.cells
  dsimp only at c0 c1 c2 c3 c4 c5 c6 c7 c8 c9 c10 c11
  have hlt := hd3.lt
  have HD3 := Lib.hid hd3
  clear hd3
  clear q1 q2 z1 z2 z3 z5
  go_upto_block 0 with fail
  obtain ⟨s3, hs3⟩ : ∃ x, sA (tyL ty ++ (srcL ty src ++ (runL ⟨ty, src, runs, short, bd, cr, how, vic, fd, sd, sub, sec⟩ ++ bdL bd))) = x := ⟨_, rfl⟩
  have z6 : s3.size ≤ 4 := by rw [← hs3, sA_size]; simp only [List.length_append]; have l1 := tyL_len ty; have l2 := srcL_len ty src; have l3 := runL_len ⟨ty, src, runs, short, bd, cr, how, vic, fd, sd, sub, sec⟩; have l4 := bdL_len bd; have l5 := shL_len short; have l6 := crL_len cr; have l7 := wkL_len HOK.out; omega
  have q3 : (9223372036854775807 < s2.size + 1) = False := lt_no (by omega)
  have Hs3 := Lib.hid hs3
  clear hs3
  go_cut [6] (fun v wx => v = .string s3 ∧ wc = wx)
  case first =>
    have hbd := HBD.out
    rcases hbd with rfl | rfl | rfl <;>
    · go_wp2_with fail
      go_meet
      case rel => exact ⟨by rw [← Hs3.out, ← Hs2.out]; first | (simp [bdL]; done) | (apply congrArg Value.string; apply ByteArray.ext; simp [sA, bdL, ByteArray.data_append]), rfl⟩
  case rest =>
  obtain ⟨hv, hx⟩ := hcut
  subst hv hx
  go_upto_if 56 with fail
  obtain ⟨s4, hs4⟩ : ∃ x, sA (tyL ty ++ (srcL ty src ++ (runL ⟨ty, src, runs, short, bd, cr, how, vic, fd, sd, sub, sec⟩ ++ (bdL bd ++ shL short)))) = x := ⟨_, rfl⟩
  obtain ⟨d2, hd2⟩ : ∃ x, sA (dg short) = x := ⟨_, rfl⟩
  have z7 : s4.size ≤ 6 := by rw [← hs4, sA_size]; simp only [List.length_append]; have l1 := tyL_len ty; have l2 := srcL_len ty src; have l3 := runL_len ⟨ty, src, runs, short, bd, cr, how, vic, fd, sd, sub, sec⟩; have l4 := bdL_len bd; have l5 := shL_len short; have l6 := crL_len cr; have l7 := wkL_len HOK.out; omega
  have z8 : d2.size = 1 := by rw [← hd2]; rfl
  have q4 : (9223372036854775807 < 1 + d2.size) = False := lt_no (by omega)
  have q5 : (9223372036854775807 < s3.size + (1 + d2.size)) = False := lt_no (by omega)
  have Hs4 := Lib.hid hs4
  clear hs4
  have Hd2 := Lib.hid hd2
  clear hd2
  go_cut [6] (fun v wx => v = .string s4 ∧ DBox w wx ⟨ty, src, runs, short, bd, cr, how, vic, fd, sd, sub, sec⟩)
  case first =>
    by_cases k1 : 0 < short
    · have g1 : decide (0 < short) = true := by simpa using k1
      go_wp2_with fail
      refine (dec7_d short s0 (by omega) _).mono ?_
      rintro e w2 ⟨rfl, hb2⟩
      rw [Hd2.out]
      have HB2 := Lib.hid hb2
      clear hb2
      go_wp2_with fail
      go_meet
      case rel => exact ⟨by rw [← Hs4.out, ← Hs3.out, ← Hd2.out]; unfold shL; rw [if_pos k1]; apply congrArg Value.string; apply ByteArray.ext; simp [sA, ByteArray.data_append], HD3.out.to HB2.out⟩
    · have g1 : decide (0 < short) = false := by simpa using k1
      go_wp2_with fail
      go_meet
      case rel => exact ⟨by rw [← Hs4.out, ← Hs3.out]; unfold shL; rw [if_neg (by omega)]; simp, HD3.out⟩
  case rest =>
  obtain ⟨hv, hd4⟩ := hcut
  subst hv
  clear c0 c1 c2 c3 c4 c5 c6 c7 c8 c9 c10 c11 hlt
  obtain ⟨c0, c1, c2, c3, c4, c5, c6, c7, c8, c9, c10, c11⟩ := hd4.cells
  dsimp only at c0 c1 c2 c3 c4 c5 c6 c7 c8 c9 c10 c11
  have hlt := hd4.lt
  have HD4 := Lib.hid hd4
  clear hd4
  go_upto_if 64 with fail
  obtain ⟨s5, hs5⟩ : ∃ x, sA (tyL ty ++ (srcL ty src ++ (runL ⟨ty, src, runs, short, bd, cr, how, vic, fd, sd, sub, sec⟩ ++ (bdL bd ++ (shL short ++ crL cr))))) = x := ⟨_, rfl⟩
  have z9 : s5.size ≤ 7 := by rw [← hs5, sA_size]; simp only [List.length_append]; have l1 := tyL_len ty; have l2 := srcL_len ty src; have l3 := runL_len ⟨ty, src, runs, short, bd, cr, how, vic, fd, sd, sub, sec⟩; have l4 := bdL_len bd; have l5 := shL_len short; have l6 := crL_len cr; have l7 := wkL_len HOK.out; omega
  have q6 : (9223372036854775807 < s4.size + 1) = False := lt_no (by omega)
  have Hs5 := Lib.hid hs5
  clear hs5
  go_cut [6] (fun v wx => v = .string s5 ∧ wc = wx)
  case first =>
    cases cr <;>
    · go_wp2_with fail
      go_meet
      case rel => exact ⟨by rw [← Hs5.out, ← Hs4.out]; first | (simp [crL]; done) | (apply congrArg Value.string; apply ByteArray.ext; simp [sA, crL, ByteArray.data_append]), rfl⟩
  case rest =>
  obtain ⟨hv, hx⟩ := hcut
  subst hv hx
  clear q3 q4 q5 q6 z4 z6 z7 z8
  go_upto_region 17 with fail
  obtain ⟨fl, hfl⟩ : ∃ b, ((fd != 0) || ((sd != 0) || sub)) = b := ⟨_, rfl⟩
  obtain ⟨tb, htb⟩ : ∃ b, ((how != 0) || ((vic != 0) || fl)) = b := ⟨_, rfl⟩
  have Hfl := Lib.hid hfl
  clear hfl
  have Htb := Lib.hid htb
  clear htb
  go_cut [88] (fun v wx => v = .bool tb ∧ wc = wx)
  case first =>
    by_cases k1 : how = 0
    · have g1 : (how != 0) = false := by simpa using k1
      by_cases k2 : vic = 0
      · have g2 : (vic != 0) = false := by simpa using k2
        by_cases k3 : fd = 0
        · have g3 : (fd != 0) = false := by simpa using k3
          by_cases k4 : sd = 0
          · have g4 : (sd != 0) = false := by simpa using k4
            clear k1 k2 k3 k4
            go_wp2_with fail
            go_meet
            case rel => exact ⟨by rw [← Htb.out, ← Hfl.out, g1, g2, g3, g4]; rfl, rfl⟩
          · have g4 : (sd != 0) = true := by simpa using k4
            clear k1 k2 k3 k4
            go_wp2_with fail
            go_meet
            case rel => exact ⟨by rw [← Htb.out, ← Hfl.out, g1, g2, g3, g4]; rfl, rfl⟩
        · have g3 : (fd != 0) = true := by simpa using k3
          clear k1 k2 k3
          go_wp2_with fail
          go_meet
          case rel => exact ⟨by rw [← Htb.out, ← Hfl.out, g1, g2, g3]; rfl, rfl⟩
      · have g2 : (vic != 0) = true := by simpa using k2
        clear k1 k2
        go_wp2_with fail
        go_meet
        case rel => exact ⟨by rw [← Htb.out, g1, g2]; rfl, rfl⟩
    · have g1 : (how != 0) = true := by simpa using k1
      clear k1
      go_wp2_with fail
      go_meet
      case rel => exact ⟨by rw [← Htb.out, g1]; rfl, rfl⟩
  case rest =>
  obtain ⟨hv, hx⟩ := hcut
  subst hv hx
  go_upto_if 88 with fail
  obtain ⟨k1, hk1⟩ : ∃ x, sA (wkL ⟨ty, src, runs, short, bd, cr, how, vic, fd, sd, sub, sec⟩) = x := ⟨_, rfl⟩
  obtain ⟨s6, hs6⟩ : ∃ x, sA (tyL ty ++ (srcL ty src ++ (runL ⟨ty, src, runs, short, bd, cr, how, vic, fd, sd, sub, sec⟩ ++ (bdL bd ++ (shL short ++ (crL cr ++ wkL ⟨ty, src, runs, short, bd, cr, how, vic, fd, sd, sub, sec⟩)))))) = x := ⟨_, rfl⟩
  have z10 : k1.size ≤ 30 := by rw [← hk1, sA_size]; exact wkL_len HOK.out
  have e2 : s5 ++ k1 = s6 := by rw [← Hs5.out, ← hk1, ← hs6, sA_app]; simp
  have z11 : s6.size ≤ 40 := by rw [← e2, ByteArray.size_append]; omega
  have E2 := Lib.hid e2
  clear e2
  have Hk1 := Lib.hid hk1
  clear hk1
  have Hs6 := Lib.hid hs6
  clear hs6
  go_cut [6] (fun v wx => v = .string s6 ∧ DBox w wx ⟨ty, src, runs, short, bd, cr, how, vic, fd, sd, sub, sec⟩)
  case first =>
    cases tb
    · go_wp2_with fail
      go_meet
      case rel =>
        refine ⟨?_, HD4.out⟩
        have h := Htb.out
        have h2 := Hfl.out
        rw [← Hs6.out, ← Hs5.out]
        have hw : wkL ⟨ty, src, runs, short, bd, cr, how, vic, fd, sd, sub, sec⟩ = [] := by
          unfold wkL fldB
          dsimp only
          rw [h2]
          simp at h
          rw [if_pos (by simp [h])]
        rw [hw]
        simp
    · go_upto_region 18 with fail
      obtain ⟨v1, hv1⟩ : ∃ x, sA (dg vic) = x := ⟨_, rfl⟩
      have hz1 : v1.size = 1 := by rw [← hv1]; rfl
      obtain ⟨s7a, hs7a⟩ : ∃ x, s5 ++ (sA [47, letL how] ++ v1) = x := ⟨_, rfl⟩
      have zz7 : s7a.size ≤ 10 := by rw [← hs7a, ByteArray.size_append, ByteArray.size_append, hz1, sA_size]; simp only [List.length_cons, List.length_nil]; omega
      have q1 : (9223372036854775807 < 2 + v1.size) = False := lt_no (by omega)
      have q2 : (9223372036854775807 < s5.size + (2 + v1.size)) = False := lt_no (by omega)
      have HV1 := Lib.hid hv1
      have HZ1 := Lib.hid hz1
      have HS7 := Lib.hid hs7a
      clear hv1 hz1 hs7a
      obtain ⟨sl, hsl⟩ : ∃ x, (⟨#[78, 66, 67, 76, 83, 72, 82, 84, 79, 77, 81]⟩ : ByteArray).extract how.toNat (how + 1).toNat = x := ⟨_, rfl⟩
      have hsl2 := slice_how hh h10
      rw [hsl] at hsl2
      have zsl : sl.size = 1 := by rw [hsl2]; rfl
      have HSL := Lib.hid hsl2
      have q1 : (9223372036854775807 < 1 + sl.size) = False := lt_no (by omega)
      have q2 : (9223372036854775807 < 1 + sl.size + v1.size) = False := lt_no (by rw [HZ1.out]; omega)
      have q3 : (9223372036854775807 < s5.size + (1 + sl.size + v1.size)) = False := lt_no (by rw [HZ1.out]; omega)
      have HZS := Lib.hid zsl
      clear zsl hsl2
      have hw8 : IntKind.u8.wrap (how + 1) = how + 1 := wrap_how hh h10
      have hl1 : how ≤ how + 1 := by omega
      have hl2 : how + 1 ≤ 11 := by omega
      have hl0 : 0 ≤ how + 1 := by omega
      have k6 : ∀ s : Wd wc [], s.w.cell? ⟨w.heap.size, 6, none⟩ = some (.int .u8 how) := fun s => (s.h.1.cell hlt).trans c6
      have k7 : ∀ s : Wd wc [], s.w.cell? ⟨w.heap.size, 7, none⟩ = some (.int .i64 vic) := fun s => (s.h.1.cell hlt).trans c7
      have hex : ∀ s : Wd wc [], ∃ s' : Wd wc [], s.w = s'.w := fun s => ⟨s, rfl⟩
      have K0 : Keep wc wc [] := Keep.start (Below.refl _ _) (by simp)
      haveI hne : Nonempty (Wd wc []) := ⟨⟨_, K0⟩⟩
      refine wp_region_wd wc [] (by kernel_rfl) (by kernel_rfl) K0.drew ?_
      repeat (go_big_quiet_step ((go_at_call 81; refine (dec7_d _ (by omega) (by omega) _).mono ?_; rintro e w9 ⟨rfl, hb9⟩; rw [HV1.out]; exact ⟨rfl, ⟨w9, (Wd.h _).to hb9⟩, rfl⟩)))
      refine wpQuiet_nil ?_
      rintro w9 ⟨s9, hs9⟩
      have hb2 : Below wc.heap.size wc w9 := by rw [hs9]; exact s9.h.1
      clear hs9 s9 k6 k7 hex hne K0 q1 q2 q3
      have hd9 := HD4.out.to hb2
      clear c0 c1 c2 c3 c4 c5 c6 c7 c8 c9 c10 c11 hlt
      obtain ⟨c0, c1, c2, c3, c4, c5, c6, c7, c8, c9, c10, c11⟩ := hd9.cells
      dsimp only at c0 c1 c2 c3 c4 c5 c6 c7 c8 c9 c10 c11
      have hlt := hd9.lt
      have HDA9 := Lib.hid hd9
      clear hd9
      clear hb2
      have HS7b : Hid (s5 ++ (⟨#[47]⟩ ++ sl ++ v1) = s7a) := Lib.hid (by rw [← HS7.out, HSL.out]; rfl)
      rw [HS7b.out]
      clear hsl hw8 hl1 hl2 hl0
      obtain ⟨f1, hf1⟩ : ∃ x, sA (dcB fd) = x := ⟨_, rfl⟩
      obtain ⟨f2, hf2⟩ : ∃ x, sA (dcB sd) = x := ⟨_, rfl⟩
      have z1 : f1.size ≤ 20 := by rw [← hf1, sA_size]; have := dcB_len7 (n := fd) (by omega); omega
      have z2 : f2.size ≤ 20 := by rw [← hf2, sA_size]; have := dcB_len7 (n := sd) (by omega); omega
      have q1 : (9223372036854775807 < 1 + f1.size) = False := lt_no (by omega)
      have q2 : (9223372036854775807 < s7a.size + (1 + f1.size)) = False := lt_no (by omega)
      have q3 : (9223372036854775807 < 1 + f2.size) = False := lt_no (by omega)
      have q4 : (9223372036854775807 < s7a.size + (1 + f1.size) + (1 + f2.size)) = False := lt_no (by omega)
      have q5 : (9223372036854775807 < s7a.size + (1 + f1.size) + (1 + f2.size) + 1) = False := lt_no (by omega)
      have q6 : (9223372036854775807 < s7a.size + (1 + f1.size) + (1 + f2.size) + 1 + 1) = False := lt_no (by omega)
      have q7 : (9223372036854775807 < s7a.size + (1 + f1.size) + 1) = False := lt_no (by omega)
      have q8 : (9223372036854775807 < s7a.size + (1 + f1.size) + 1 + 1) = False := lt_no (by omega)
      have HF1 := Lib.hid hf1
      have HF2 := Lib.hid hf2
      clear hf1 hf2 z1 z2
      have hwk : Hid (s5 ++ sA (47 :: letL how :: (dg vic ++ fdL ⟨ty, src, runs, short, bd, cr, how, vic, fd, sd, sub, sec⟩)) = s6) := Lib.hid (by
        rw [← E2.out, ← Hk1.out]
        unfold wkL
        rw [if_neg]
        intro hq
        have h := Htb.out
        rw [← Hfl.out] at h
        have h3 := hq.2.2
        unfold fldB at h3
        dsimp only at h3
        rw [h3] at h
        simp at h
        rcases h with h | h
        · exact h hq.1
        · exact h hq.2.1)
      cases fl
      · have hz := Hfl.out
        simp only [Bool.or_eq_false_iff] at hz
        obtain ⟨g3, g4, g5⟩ := hz
        subst g5
        go_wp2_with fail
        go_meet
        case rel =>
          refine ⟨?_, HDA9.out⟩
          rw [← hwk.out, ← HS7.out, ← HV1.out]
          have h2 := Hfl.out
          unfold fdL fldB
          dsimp only
          rw [h2]
          apply congrArg Value.string
          apply ByteArray.ext
          simp [sA, ByteArray.data_append]
      · have hfdl : Hid (fdL ⟨ty, src, runs, short, bd, cr, how, vic, fd, sd, sub, sec⟩ = 40 :: (dcB fd ++ ((if sd ≠ 0 then 44 :: dcB sd else []) ++ ((if sub then [115] else []) ++ [41])))) := Lib.hid (by
          have h2 := Hfl.out
          unfold fdL fldB
          dsimp only
          rw [h2, if_pos rfl])
        by_cases k2 : sd = 0
        · have g2 : (sd != 0) = false := by simpa using k2
          have K2 := Lib.hid k2
          clear k2
          by_cases k3 : fd = 0
          · have g3 : (fd != 0) = false := by simpa using k3
            clear k3
            cases sub
            · have := Hfl.out
              rw [g2, g3] at this
              cases this
            · go_wp2_with fail
              refine (dec7_r fd f0 (by omega) _).mono ?_
              rintro e w8 ⟨rfl, hb2⟩
              rw [HF1.out]
              have hd8 := HDA9.out.to hb2
              clear c0 c1 c2 c3 c4 c5 c6 c7 c8 c9 c10 c11 hlt
              obtain ⟨c0, c1, c2, c3, c4, c5, c6, c7, c8, c9, c10, c11⟩ := hd8.cells
              dsimp only at c0 c1 c2 c3 c4 c5 c6 c7 c8 c9 c10 c11
              have hlt := hd8.lt
              have HD8 := Lib.hid hd8
              clear hd8
              clear hb2
              go_wp2_with fail
              go_meet
              case rel =>
                refine ⟨?_, HD8.out⟩
                rw [← hwk.out, ← HS7.out, ← HV1.out, hfdl.out, ← HF1.out, if_neg (fun h => h K2.out)]
                apply congrArg Value.string
                apply ByteArray.ext
                simp [sA, ByteArray.data_append]
          · have g3 : (fd != 0) = true := by simpa using k3
            clear k3
            cases sub <;>
            · go_wp2_with fail
              refine (dec7_r fd f0 (by omega) _).mono ?_
              rintro e w8 ⟨rfl, hb2⟩
              rw [HF1.out]
              have hd8 := HDA9.out.to hb2
              clear c0 c1 c2 c3 c4 c5 c6 c7 c8 c9 c10 c11 hlt
              obtain ⟨c0, c1, c2, c3, c4, c5, c6, c7, c8, c9, c10, c11⟩ := hd8.cells
              dsimp only at c0 c1 c2 c3 c4 c5 c6 c7 c8 c9 c10 c11
              have hlt := hd8.lt
              have HD8 := Lib.hid hd8
              clear hd8
              clear hb2
              go_wp2_with fail
              go_meet
              case rel =>
                refine ⟨?_, HD8.out⟩
                rw [← hwk.out, ← HS7.out, ← HV1.out, hfdl.out, ← HF1.out, if_neg (fun h => h K2.out)]
                apply congrArg Value.string
                apply ByteArray.ext
                simp [sA, ByteArray.data_append]
        · have g2 : (sd != 0) = true := by simpa using k2
          have K2 := Lib.hid k2
          clear k2
          by_cases k3 : fd = 0
          · have g3 : (fd != 0) = false := by simpa using k3
            clear k3
            cases sub <;>
            · go_wp2_with fail
              refine (dec7_r fd f0 (by omega) _).mono ?_
              rintro e w8 ⟨rfl, hb2⟩
              rw [HF1.out]
              have hd8 := HDA9.out.to hb2
              clear c0 c1 c2 c3 c4 c5 c6 c7 c8 c9 c10 c11 hlt
              obtain ⟨c0, c1, c2, c3, c4, c5, c6, c7, c8, c9, c10, c11⟩ := hd8.cells
              dsimp only at c0 c1 c2 c3 c4 c5 c6 c7 c8 c9 c10 c11
              have hlt := hd8.lt
              have HD8 := Lib.hid hd8
              clear hd8
              clear hb2
              go_wp2_with fail
              refine (dec7_r sd d0 (by omega) _).mono ?_
              rintro e w9 ⟨rfl, hb2⟩
              rw [HF2.out]
              have hd9 := HD8.out.to hb2
              clear c0 c1 c2 c3 c4 c5 c6 c7 c8 c9 c10 c11 hlt
              obtain ⟨c0, c1, c2, c3, c4, c5, c6, c7, c8, c9, c10, c11⟩ := hd9.cells
              dsimp only at c0 c1 c2 c3 c4 c5 c6 c7 c8 c9 c10 c11
              have hlt := hd9.lt
              have HD9 := Lib.hid hd9
              clear hd9
              clear hb2
              go_wp2_with fail
              go_meet
              case rel =>
                refine ⟨?_, HD9.out⟩
                rw [← hwk.out, ← HS7.out, ← HV1.out, hfdl.out, ← HF1.out, ← HF2.out, if_pos K2.out]
                apply congrArg Value.string
                apply ByteArray.ext
                simp [sA, ByteArray.data_append]
          · have g3 : (fd != 0) = true := by simpa using k3
            clear k3
            cases sub <;>
            · go_wp2_with fail
              refine (dec7_r fd f0 (by omega) _).mono ?_
              rintro e w8 ⟨rfl, hb2⟩
              rw [HF1.out]
              have hd8 := HDA9.out.to hb2
              clear c0 c1 c2 c3 c4 c5 c6 c7 c8 c9 c10 c11 hlt
              obtain ⟨c0, c1, c2, c3, c4, c5, c6, c7, c8, c9, c10, c11⟩ := hd8.cells
              dsimp only at c0 c1 c2 c3 c4 c5 c6 c7 c8 c9 c10 c11
              have hlt := hd8.lt
              have HD8 := Lib.hid hd8
              clear hd8
              clear hb2
              go_wp2_with fail
              refine (dec7_r sd d0 (by omega) _).mono ?_
              rintro e w9 ⟨rfl, hb2⟩
              rw [HF2.out]
              have hd9 := HD8.out.to hb2
              clear c0 c1 c2 c3 c4 c5 c6 c7 c8 c9 c10 c11 hlt
              obtain ⟨c0, c1, c2, c3, c4, c5, c6, c7, c8, c9, c10, c11⟩ := hd9.cells
              dsimp only at c0 c1 c2 c3 c4 c5 c6 c7 c8 c9 c10 c11
              have hlt := hd9.lt
              have HD9 := Lib.hid hd9
              clear hd9
              clear hb2
              go_wp2_with fail
              go_meet
              case rel =>
                refine ⟨?_, HD9.out⟩
                rw [← hwk.out, ← HS7.out, ← HV1.out, hfdl.out, ← HF1.out, ← HF2.out, if_pos K2.out]
                apply congrArg Value.string
                apply ByteArray.ext
                simp [sA, ByteArray.data_append]
  case rest =>
  obtain ⟨hv, hd5⟩ := hcut
  subst hv
  clear c0 c1 c2 c3 c4 c5 c6 c7 c8 c9 c10 c11 hlt
  obtain ⟨c0, c1, c2, c3, c4, c5, c6, c7, c8, c9, c10, c11⟩ := hd5.cells
  dsimp only at c0 c1 c2 c3 c4 c5 c6 c7 c8 c9 c10 c11
  have hlt := hd5.lt
  have HD5 := Lib.hid hd5
  clear hd5
  obtain ⟨d3, hd3⟩ : ∃ x, sA (dg sec) = x := ⟨_, rfl⟩
  have z8 : d3.size = 1 := by rw [← hd3]; rfl
  have q4 : (9223372036854775807 < 1 + d3.size) = False := lt_no (by omega)
  have q5 : (9223372036854775807 < s6.size + (1 + d3.size)) = False := lt_no (by omega)
  have Hd3 := Lib.hid hd3
  clear hd3
  by_cases k9 : 0 < sec
  · have g1 : decide (0 < sec) = true := by simpa using k9
    go_wp2_with fail
    refine (dec7_d sec x0 (by omega) _).mono ?_
    rintro e w2 ⟨rfl, hb2⟩
    rw [Hd3.out]
    have HB2 := Lib.hid hb2
    clear hb2
    go_wp2_with fail
    go_ret2
    refine ⟨?_, (HD5.out.to HB2.out).below⟩
    rw [← Hs6.out, ← Hd3.out]
    unfold prtD secL
    dsimp only
    rw [if_pos k9]
    have he : sA (tyL ty ++ (srcL ty src ++ (runL ⟨ty, src, runs, short, bd, cr, how, vic, fd, sd, sub, sec⟩ ++ (bdL bd ++ (shL short ++ (crL cr ++ wkL ⟨ty, src, runs, short, bd, cr, how, vic, fd, sd, sub, sec⟩)))))) ++ (sA [64] ++ sA (dg sec)) = sA (tyL ty ++ (srcL ty src ++ (runL ⟨ty, src, runs, short, bd, cr, how, vic, fd, sd, sub, sec⟩ ++ (bdL bd ++ (shL short ++ (crL cr ++ (wkL ⟨ty, src, runs, short, bd, cr, how, vic, fd, sd, sub, sec⟩ ++ 64 :: dg sec))))))) := by rw [sA_app, sA_app]; congr 1; simp
    rw [← he]
    rfl
  · have g1 : decide (0 < sec) = false := by simpa using k9
    go_wp2_with fail
    go_ret2
    refine ⟨?_, HD5.out.below⟩
    rw [← Hs6.out]
    unfold prtD secL
    dsimp only
    rw [if_neg (by omega)]
    simp only [List.append_nil]
    rfl
end Go.Proofs.YtdbiihfoafoljaaGreatDoor
