/-
  Chapter 7: the symbol of a delivery, by the program.
-/
import Derived.Test.YtdbiihfoafoljaaGreatDoorNotW
import Derived.Deep.CutBlock
set_option linter.unusedSimpArgs false
set_option linter.unusedVariables false
namespace Go.Proofs.YtdbiihfoafoljaaGreatDoor
open Go.RowKit
set_option maxRecDepth 100000
set_option maxHeartbeats 4000000
theorem srcL_cases (t s : Int) : srcL t s = [] ∨ ∃ c, srcL t s = [c] := by
  unfold srcL
  split
  · exact .inr ⟨_, rfl⟩
  split
  · exact .inr ⟨_, rfl⟩
  split
  · split
    · exact .inr ⟨_, rfl⟩
    · exact .inl rfl
  · split
    · exact .inr ⟨_, rfl⟩
    · exact .inl rfl
theorem tyL_len (t : Int) : (tyL t).length ≤ 1 := by
  unfold tyL
  split
  · simp
  split
  · simp
  · simp
theorem srcL_len (t s : Int) : (srcL t s).length ≤ 1 := by rcases srcL_cases t s with h | ⟨c, h⟩ <;> rw [h] <;> simp
theorem runL_len (d : Del) : (runL d).length ≤ 1 := by unfold runL; split <;> simp [dg]
theorem bdL_len (b : Int) : (bdL b).length ≤ 1 := by
  unfold bdL
  split
  · simp
  split
  · simp
  · simp
theorem shL_len (n : Int) : (shL n).length ≤ 2 := by unfold shL; split <;> simp [dg]
theorem crL_len (b : Bool) : (crL b).length ≤ 1 := by cases b <;> simp [crL]
theorem wkL_len {d : Del} (h : OkD d) : (wkL d).length ≤ 30 := by
  have h1 := dcB_len7 (n := d.fd) (by have := h.fd; omega)
  have h2 := dcB_len7 (n := d.sd) (by have := h.sd; omega)
  unfold wkL
  split
  · simp
  · unfold fdL
    have : (dg d.vic).length = 1 := rfl
    simp only [List.length_cons, List.length_append, this]
    split
    · simp only [List.length_cons, List.length_append]
      have h3 : (if d.sd ≠ 0 then 44 :: dcB d.sd else ([] : List UInt8)).length ≤ 8 := by split <;> simp <;> omega
      have h4 : (if d.sub then [115] else ([] : List UInt8)).length ≤ 1 := by split <;> simp
      simp only [List.length_nil]
      omega
    · simp
theorem sA_size (l : List UInt8) : (sA l).size = l.length := by unfold sA; simp [ByteArray.size]
theorem lt_no {n : Nat} (h : n ≤ 1000000) : (9223372036854775807 < n) = False := by simp; omega
theorem print_e (d : Del) (v : Int) (hc : chkD d = v) (hv : v ≠ 0) (w : World) : Calls Tryz.prog 45 #[delV d] w fun e w' => e = .returned (.tuple #[.string ⟨#[]⟩, .int .i64 v]) ∧ Below w.heap.size w w' := by
  have hb : (v != 0) = true := by simpa using hv
  have HC := Lib.hid hc
  clear hc hv
  obtain ⟨ty, src, runs, short, bd, cr, how, vic, fd, sd, sub, sec⟩ := d
  unfold delV
  dsimp only
  obtain ⟨w1, hw1⟩ : ∃ w1, w.alloc (.cells #[.int .u8 ty, .int .u8 src, .int .i64 runs, .int .i64 short, .int .i64 bd, .bool cr, .int .u8 how, .int .i64 vic, .int .i64 fd, .int .i64 sd, .bool sub, .int .i64 sec] 36) = w1 := ⟨_, rfl⟩
  have hd : DBox w w1 ⟨ty, src, runs, short, bd, cr, how, vic, fd, sd, sub, sec⟩ := by rw [← hw1]; exact DBox.new ⟨ty, src, runs, short, bd, cr, how, vic, fd, sd, sub, sec⟩ w
  obtain ⟨c0, c1, c2, c3, c4, c5, c6, c7, c8, c9, c10, c11⟩ := hd.cells
  dsimp only at c0 c1 c2 c3 c4 c5 c6 c7 c8 c9 c10 c11
  have hlt := hd.lt
  have HD := Lib.hid hd
  have HW1 := Lib.hid hw1
  clear hd hw1
  go_enter Tryz.func45, Tryz.ntmps45
  go_wp2_with (rw [HW1.out])
  refine (chk_p ⟨ty, src, runs, short, bd, cr, how, vic, fd, sd, sub, sec⟩ _).mono ?_
  rintro e w2 ⟨rfl, hb2⟩
  rw [HC.out]
  have HB2 := Lib.hid (cur_step1 HD.out.below hb2)
  clear hb2
  go_wp2_with fail
  go_ret2
  exact ⟨rfl, HB2.out⟩
theorem print_p (d : Del) (hc : chkD d = 0) (hh : 0 ≤ d.how) (w : World) (hw : LibW w) : Calls Tryz.prog 45 #[delV d] w fun e w' => e = .returned (.tuple #[.string (sA (prtD d)), .int .i64 0]) ∧ Below w.heap.size w w' := by
  have HOK := Lib.hid (okD_of hc)
  have HC := Lib.hid hc
  have HH := Lib.hid hh
  have HLW0 := Lib.hid hw
  clear hc hh hw
  obtain ⟨ty, src, runs, short, bd, cr, how, vic, fd, sd, sub, sec⟩ := d
  have ht := HOK.out.ty
  have hbd := HOK.out.bd
  obtain ⟨r0, r7⟩ := HOK.out.runs
  obtain ⟨s0, s7⟩ := HOK.out.short
  obtain ⟨x0, x8⟩ := HOK.out.sec
  dsimp only at ht hbd r0 r7 s0 s7 x0 x8
  have HT := Lib.hid ht
  have HBD := Lib.hid hbd
  clear ht hbd
  unfold delV
  dsimp only
  obtain ⟨w1, hw1⟩ : ∃ w1, w.alloc (.cells #[.int .u8 ty, .int .u8 src, .int .i64 runs, .int .i64 short, .int .i64 bd, .bool cr, .int .u8 how, .int .i64 vic, .int .i64 fd, .int .i64 sd, .bool sub, .int .i64 sec] 36) = w1 := ⟨_, rfl⟩
  have hd : DBox w w1 ⟨ty, src, runs, short, bd, cr, how, vic, fd, sd, sub, sec⟩ := by rw [← hw1]; exact DBox.new ⟨ty, src, runs, short, bd, cr, how, vic, fd, sd, sub, sec⟩ w
  obtain ⟨c0, c1, c2, c3, c4, c5, c6, c7, c8, c9, c10, c11⟩ := hd.cells
  dsimp only at c0 c1 c2 c3 c4 c5 c6 c7 c8 c9 c10 c11
  have hlt := hd.lt
  have HD := Lib.hid hd
  have HW1 := Lib.hid hw1
  clear hd hw1
  go_enter Tryz.func45, Tryz.ntmps45
  go_upto_region 1 with (rw [HW1.out])
  go_cut [4] (fun v wx => v = .int .i64 0 ∧ DBox w wx ⟨ty, src, runs, short, bd, cr, how, vic, fd, sd, sub, sec⟩)
  case first =>
    go_wp2_with fail
    refine (chk_p ⟨ty, src, runs, short, bd, cr, how, vic, fd, sd, sub, sec⟩ _).mono ?_
    rintro e w2 ⟨rfl, hb2⟩
    rw [HC.out]
    have HB2 := Lib.hid hb2
    clear hb2
    go_wp2_with fail
    go_meet
    case rel => exact ⟨rfl, HD.out.to HB2.out⟩
  case rest =>
  obtain ⟨hv, hd2⟩ := hcut
  subst hv
  clear c0 c1 c2 c3 c4 c5 c6 c7 c8 c9 c10 c11 hlt
  obtain ⟨c0, c1, c2, c3, c4, c5, c6, c7, c8, c9, c10, c11⟩ := hd2.cells
  dsimp only at c0 c1 c2 c3 c4 c5 c6 c7 c8 c9 c10 c11
  have hlt := hd2.lt
  have HD2 := Lib.hid hd2
  clear hd2
  go_upto_region 4 with fail
  go_cut [5] (fun v wx => v = .string (sA (tyL ty)) ∧ DBox w wx ⟨ty, src, runs, short, bd, cr, how, vic, fd, sd, sub, sec⟩)
  case first =>
    have ht := HT.out
    clear HT HOK HC
    rcases ht with rfl | rfl | rfl <;>
    · go_wp2_with fail
      go_meet
      case rel => exact ⟨rfl, HD2.out.to (cur_new _ _)⟩
  case rest =>
  obtain ⟨hv, hd3⟩ := hcut
  subst hv
  clear c0 c1 c2 c3 c4 c5 c6 c7 c8 c9 c10 c11 hlt
  obtain ⟨c0, c1, c2, c3, c4, c5, c6, c7, c8, c9, c10, c11⟩ := hd3.cells
  dsimp only at c0 c1 c2 c3 c4 c5 c6 c7 c8 c9 c10 c11
  have hlt := hd3.lt
  have HD3 := Lib.hid hd3
  clear hd3
  obtain ⟨t1, ht1⟩ : ∃ x, sA (tyL ty) = x := ⟨_, rfl⟩
  obtain ⟨f1, hf1⟩ : ∃ x, sA (srcL ty src) = x := ⟨_, rfl⟩
  obtain ⟨s1, hs1⟩ : ∃ x, sA (tyL ty ++ srcL ty src) = x := ⟨_, rfl⟩
  have z1 : t1.size ≤ 1 := by rw [← ht1, sA_size]; exact tyL_len ty
  have z2 : f1.size ≤ 1 := by rw [← hf1, sA_size]; rcases srcL_cases ty src with h | ⟨c, h⟩ <;> rw [h] <;> simp
  have e1 : t1 ++ f1 = s1 := by rw [← ht1, ← hf1, ← hs1, sA_app]
  have z3 : s1.size ≤ 2 := by rw [← e1, ByteArray.size_append]; omega
  have q1 : (9223372036854775807 < t1.size + f1.size) = False := lt_no (by omega)
  rw [ht1]
  have Ht1 := Lib.hid ht1
  clear ht1
  have Hf1 := Lib.hid hf1
  clear hf1
  have Hs1 := Lib.hid hs1
  clear hs1
  have E1 := Lib.hid e1
  clear e1
  go_upto_region 5 with fail
  go_cut [6] (fun v wx => v = .string f1 ∧ DBox w wx ⟨ty, src, runs, short, bd, cr, how, vic, fd, sd, sub, sec⟩)
  case first =>
    go_wp2_with fail
    refine (source_p ⟨ty, src, runs, short, bd, cr, how, vic, fd, sd, sub, sec⟩ _).mono ?_
    rintro e w2 ⟨rfl, hb2⟩
    dsimp only
    rw [Hf1.out]
    have HB2 := Lib.hid hb2
    clear hb2
    go_wp2_with fail
    go_meet
    case rel => exact ⟨rfl, HD3.out.to HB2.out⟩
  case rest =>
  obtain ⟨hv, hd4⟩ := hcut
  subst hv
  clear c0 c1 c2 c3 c4 c5 c6 c7 c8 c9 c10 c11 hlt
  obtain ⟨c0, c1, c2, c3, c4, c5, c6, c7, c8, c9, c10, c11⟩ := hd4.cells
  dsimp only at c0 c1 c2 c3 c4 c5 c6 c7 c8 c9 c10 c11
  have hlt := hd4.lt
  have HD4 := Lib.hid hd4
  clear hd4
  go_upto_region 7 with fail
  rw [E1.out]
  obtain ⟨rb, hrb⟩ : ∃ b, (decide (0 < runs) || (srcL ty src == [] && (bd == 0 && ty != 2))) = b := ⟨_, rfl⟩
  have Hrb := Lib.hid hrb
  clear hrb
  go_cut [39] (fun v wx => v = .bool rb ∧ wc = wx)
  case first =>
    by_cases k1 : 0 < runs
    · have g1 : decide (0 < runs) = true := by simpa using k1
      clear k1
      go_wp2_with fail
      go_meet
      case rel => exact ⟨by rw [← Hrb.out, g1]; rfl, rfl⟩
    have g1 : decide (0 < runs) = false := by simpa using k1
    clear k1
    rcases srcL_cases ty src with he | ⟨c, he⟩
    · have k2 : f1.toList.isEmpty = true := by rw [emp_size, ← Hf1.out, he]; rfl
      have k3 : (f1 == (⟨#[]⟩ : ByteArray)) = true := by rw [← Hf1.out, he]; rfl
      have HE := Lib.hid he
      clear he
      by_cases k4 : bd = 0
      · have g4 : (bd == 0) = true := by simpa using k4
        clear k4
        by_cases k5 : ty = 2
        · have g5 : (ty != 2) = false := by simpa using k5
          clear k5
          go_wp2_with fail
          go_meet
          case rel => exact ⟨by rw [← Hrb.out, g1, HE.out, g4, g5]; rfl, rfl⟩
        · have g5 : (ty != 2) = true := by simpa using k5
          clear k5
          go_wp2_with fail
          go_meet
          case rel => exact ⟨by rw [← Hrb.out, g1, HE.out, g4, g5]; rfl, rfl⟩
      · have g4 : (bd == 0) = false := by simpa using k4
        clear k4
        go_wp2_with fail
        go_meet
        case rel => exact ⟨by rw [← Hrb.out, g1, HE.out, g4]; rfl, rfl⟩
    · have k2 : f1.toList.isEmpty = false := by rw [emp_size, ← Hf1.out, he]; rfl
      have k3 : (f1 == (⟨#[]⟩ : ByteArray)) = false := by rw [← Hf1.out, he]; rfl
      have HE := Lib.hid he
      clear he
      go_wp2_with fail
      go_meet
      case rel => exact ⟨by rw [← Hrb.out, g1, HE.out]; rfl, rfl⟩
  case rest =>
  obtain ⟨hv, hx⟩ := hcut
  subst hv hx
  go_upto_if 39 with fail
  obtain ⟨s2, hs2⟩ : ∃ x, sA (tyL ty ++ (srcL ty src ++ runL ⟨ty, src, runs, short, bd, cr, how, vic, fd, sd, sub, sec⟩)) = x := ⟨_, rfl⟩
  obtain ⟨d1, hd1⟩ : ∃ x, sA (dg runs) = x := ⟨_, rfl⟩
  have z4 : s2.size ≤ 3 := by rw [← hs2, sA_size, List.length_append, List.length_append]; have := tyL_len ty; have h2 := srcL_len ty src; have h3 := runL_len ⟨ty, src, runs, short, bd, cr, how, vic, fd, sd, sub, sec⟩; omega
  have z5 : d1.size = 1 := by rw [← hd1]; rfl
  have q2 : (9223372036854775807 < s1.size + d1.size) = False := lt_no (by omega)
  have Hs2 := Lib.hid hs2
  clear hs2
  have Hd1 := Lib.hid hd1
  clear hd1
  go_cut [5] (fun v wx => v = .string s2 ∧ wc = wx)
  case first =>
    cases rb
    · go_wp2_with fail
      go_meet
      case rel => exact ⟨by rw [← Hs2.out, ← Hs1.out]; have h := Hrb.out; simp at h; unfold runL; rw [if_neg (by simpa using h)]; simp, rfl⟩
    · go_wp2_with fail
      refine (digit_p runs r0 (by omega) _).mono ?_
      rintro e w2 ⟨rfl, rfl⟩
      rw [Hd1.out]
      go_wp2_with fail
      go_meet
      case rel => exact ⟨by rw [← Hs2.out, ← Hs1.out, ← Hd1.out, sA_app]; have h := Hrb.out; simp at h; unfold runL; rw [if_pos (by simpa using h)]; simp, rfl⟩
  case rest =>
  obtain ⟨hv, hx⟩ := hcut
  subst hv hx
  clear q1 q2 z1 z2 z3 z5
  go_upto_block 0 with fail
  obtain ⟨s3, hs3⟩ : ∃ x, sA (tyL ty ++ (srcL ty src ++ (runL ⟨ty, src, runs, short, bd, cr, how, vic, fd, sd, sub, sec⟩ ++ bdL bd))) = x := ⟨_, rfl⟩
  have z6 : s3.size ≤ 4 := by rw [← hs3, sA_size]; simp only [List.length_append]; have := tyL_len ty; have h2 := srcL_len ty src; have h3 := runL_len ⟨ty, src, runs, short, bd, cr, how, vic, fd, sd, sub, sec⟩; have h4 := bdL_len bd; omega
  have q3 : (9223372036854775807 < s2.size + 1) = False := lt_no (by omega)
  have Hs3 := Lib.hid hs3
  clear hs3
  go_cut [5] (fun v wx => v = .string s3 ∧ wc = wx)
  case first =>
    have hbd := HBD.out
    rcases hbd with rfl | rfl | rfl <;>
    · go_wp2_with fail
      go_meet
      case rel => exact ⟨by rw [← Hs3.out, ← Hs2.out]; first | (simp [bdL]; done) | (apply congrArg Value.string; apply ByteArray.ext; simp [sA, bdL, ByteArray.data_append]), rfl⟩
  case rest =>
  obtain ⟨hv, hx⟩ := hcut
  subst hv hx
  go_upto_if 57 with fail
  obtain ⟨s4, hs4⟩ : ∃ x, sA (tyL ty ++ (srcL ty src ++ (runL ⟨ty, src, runs, short, bd, cr, how, vic, fd, sd, sub, sec⟩ ++ (bdL bd ++ shL short)))) = x := ⟨_, rfl⟩
  obtain ⟨d2, hd2⟩ : ∃ x, sA (dg short) = x := ⟨_, rfl⟩
  have z7 : s4.size ≤ 6 := by rw [← hs4, sA_size]; simp only [List.length_append]; have := tyL_len ty; have h2 := srcL_len ty src; have h3 := runL_len ⟨ty, src, runs, short, bd, cr, how, vic, fd, sd, sub, sec⟩; have h4 := bdL_len bd; have h5 := shL_len short; omega
  have z8 : d2.size = 1 := by rw [← hd2]; rfl
  have q4 : (9223372036854775807 < 1 + d2.size) = False := lt_no (by omega)
  have q5 : (9223372036854775807 < s3.size + (1 + d2.size)) = False := lt_no (by omega)
  have Hs4 := Lib.hid hs4
  clear hs4
  have Hd2 := Lib.hid hd2
  clear hd2
  go_cut [5] (fun v wx => v = .string s4 ∧ wc = wx)
  case first =>
    by_cases k1 : 0 < short
    · have g1 : decide (0 < short) = true := by simpa using k1
      go_wp2_with fail
      refine (digit_p short s0 (by omega) _).mono ?_
      rintro e w2 ⟨rfl, rfl⟩
      rw [Hd2.out]
      go_wp2_with fail
      go_meet
      case rel => exact ⟨by rw [← Hs4.out, ← Hs3.out, ← Hd2.out]; unfold shL; rw [if_pos k1]; apply congrArg Value.string; apply ByteArray.ext; simp [sA, ByteArray.data_append], rfl⟩
    · have g1 : decide (0 < short) = false := by simpa using k1
      go_wp2_with fail
      go_meet
      case rel => exact ⟨by rw [← Hs4.out, ← Hs3.out]; unfold shL; rw [if_neg (by omega)]; simp, rfl⟩
  case rest =>
  obtain ⟨hv, hx⟩ := hcut
  subst hv hx
  go_upto_if 65 with fail
  obtain ⟨s5, hs5⟩ : ∃ x, sA (tyL ty ++ (srcL ty src ++ (runL ⟨ty, src, runs, short, bd, cr, how, vic, fd, sd, sub, sec⟩ ++ (bdL bd ++ (shL short ++ crL cr))))) = x := ⟨_, rfl⟩
  have z9 : s5.size ≤ 7 := by rw [← hs5, sA_size]; simp only [List.length_append]; have := tyL_len ty; have h2 := srcL_len ty src; have h3 := runL_len ⟨ty, src, runs, short, bd, cr, how, vic, fd, sd, sub, sec⟩; have h4 := bdL_len bd; have h5 := shL_len short; have h6 := crL_len cr; omega
  have q6 : (9223372036854775807 < s4.size + 1) = False := lt_no (by omega)
  have Hs5 := Lib.hid hs5
  clear hs5
  go_cut [5] (fun v wx => v = .string s5 ∧ wc = wx)
  case first =>
    cases cr <;>
    · go_wp2_with fail
      go_meet
      case rel => exact ⟨by rw [← Hs5.out, ← Hs4.out]; first | (simp [crL]; done) | (apply congrArg Value.string; apply ByteArray.ext; simp [sA, crL, ByteArray.data_append]), rfl⟩
  case rest =>
  obtain ⟨hv, hx⟩ := hcut
  subst hv hx
  obtain ⟨k1, hk1⟩ : ∃ x, sA (wkL ⟨ty, src, runs, short, bd, cr, how, vic, fd, sd, sub, sec⟩) = x := ⟨_, rfl⟩
  obtain ⟨s6, hs6⟩ : ∃ x, sA (tyL ty ++ (srcL ty src ++ (runL ⟨ty, src, runs, short, bd, cr, how, vic, fd, sd, sub, sec⟩ ++ (bdL bd ++ (shL short ++ (crL cr ++ wkL ⟨ty, src, runs, short, bd, cr, how, vic, fd, sd, sub, sec⟩)))))) = x := ⟨_, rfl⟩
  have z10 : k1.size ≤ 30 := by rw [← hk1, sA_size]; exact wkL_len HOK.out
  have e2 : s5 ++ k1 = s6 := by rw [← Hs5.out, ← hk1, ← hs6, sA_app]; simp
  have z11 : s6.size ≤ 40 := by rw [← e2, ByteArray.size_append]; omega
  have q7 : (9223372036854775807 < s5.size + k1.size) = False := lt_no (by omega)
  have E2 := Lib.hid e2
  clear e2
  have Hk1 := Lib.hid hk1
  clear hk1
  have Hs6 := Lib.hid hs6
  clear hs6
  clear q3 q4 q5 q6 z4 z6 z7 z8
  go_upto_region 18 with fail
  go_cut [5] (fun v wx => v = .string s6 ∧ DBox w wx ⟨ty, src, runs, short, bd, cr, how, vic, fd, sd, sub, sec⟩)
  case first =>
    go_wp2_with fail
    refine (wicket_p ⟨ty, src, runs, short, bd, cr, how, vic, fd, sd, sub, sec⟩ HOK.out HH.out _ (HLW0.out.to HD4.out.below)).mono ?_
    rintro e w2 ⟨rfl, hb2⟩
    rw [Hk1.out]
    have HB2 := Lib.hid hb2
    clear hb2
    go_wp2_with fail
    go_meet
    case rel => exact ⟨by rw [E2.out], HD4.out.to HB2.out⟩
  case rest =>
  obtain ⟨hv, hd5⟩ := hcut
  subst hv
  clear c0 c1 c2 c3 c4 c5 c6 c7 c8 c9 c10 c11 hlt
  obtain ⟨c0, c1, c2, c3, c4, c5, c6, c7, c8, c9, c10, c11⟩ := hd5.cells
  dsimp only at c0 c1 c2 c3 c4 c5 c6 c7 c8 c9 c10 c11
  have hlt := hd5.lt
  have HD5 := Lib.hid hd5
  clear hd5
  obtain ⟨d3, hd3⟩ : ∃ x, sA (dg sec) = x := ⟨_, rfl⟩
  have z8 : d3.size = 1 := by rw [← hd3]; rfl
  have q4 : (9223372036854775807 < 1 + d3.size) = False := lt_no (by omega)
  have q5 : (9223372036854775807 < s6.size + (1 + d3.size)) = False := lt_no (by omega)
  have Hd3 := Lib.hid hd3
  clear hd3
  by_cases k9 : 0 < sec
  · have g1 : decide (0 < sec) = true := by simpa using k9
    go_wp2_with fail
    refine (digit_p sec x0 (by omega) _).mono ?_
    rintro e w2 ⟨rfl, rfl⟩
    rw [Hd3.out]
    go_wp2_with fail
    go_ret2
    refine ⟨?_, HD5.out.below⟩
    rw [← Hs6.out, ← Hd3.out]
    unfold prtD secL
    dsimp only
    rw [if_pos k9]
    have he : sA (tyL ty ++ (srcL ty src ++ (runL ⟨ty, src, runs, short, bd, cr, how, vic, fd, sd, sub, sec⟩ ++ (bdL bd ++ (shL short ++ (crL cr ++ wkL ⟨ty, src, runs, short, bd, cr, how, vic, fd, sd, sub, sec⟩)))))) ++ (sA [64] ++ sA (dg sec)) = sA (tyL ty ++ (srcL ty src ++ (runL ⟨ty, src, runs, short, bd, cr, how, vic, fd, sd, sub, sec⟩ ++ (bdL bd ++ (shL short ++ (crL cr ++ (wkL ⟨ty, src, runs, short, bd, cr, how, vic, fd, sd, sub, sec⟩ ++ 64 :: dg sec))))))) := by rw [sA_app, sA_app]; congr 1; simp
    rw [← he]
    rfl
  · have g1 : decide (0 < sec) = false := by simpa using k9
    go_wp2_with fail
    go_ret2
    refine ⟨?_, HD5.out.below⟩
    rw [← Hs6.out]
    unfold prtD secL
    dsimp only
    rw [if_neg (by omega)]
    simp only [List.append_nil]
    rfl
end Go.Proofs.YtdbiihfoafoljaaGreatDoor
