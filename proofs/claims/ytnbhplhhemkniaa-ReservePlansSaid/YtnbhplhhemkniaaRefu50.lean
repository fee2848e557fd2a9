/-
  Chapter 50: Refutes.
-/
import Derived.Test.YtnbhplhhemkniaaRef50
namespace Go.Proofs.Ytnbhplhhemkniaa
open Go.RowKit
set_option maxRecDepth 100000
set_option maxHeartbeats 4000000
theorem refutes_p (A C : Option Addr) (jc cc : Nat) (js : List Jb) (caps : List Int) (first f t : Int) (w : World) (hjl : js.length ≤ 400) (hcl : caps.length ≤ 400) (hra : Rd jbE 2 w w.heap.size A js) (hrc : Rd inE 1 w w.heap.size C caps) :
    Calls Try.prog 18 #[.slice A js.length jc, .int .i64 first, .slice C caps.length cc, .agg #[.int .i64 f, .int .i64 t]] w fun e w' => e = .returned (.int .i64 (refT js first caps f t)) ∧ Below w.heap.size w w' := by
  obtain ⟨v, hv⟩ : ∃ v, refT js first caps f t = v := ⟨_, rfl⟩
  rw [hv]
  unfold refT at hv
  obtain ⟨er, her⟩ : ∃ er, ckT js first caps = er := ⟨_, rfl⟩
  rw [her] at hv
  have HER := Lib.hid her
  have HA := Lib.hid hra
  have HC := Lib.hid hrc
  have HA2 := Lib.hid (hra.to (cur_new w (.cells #[.int .i64 f, .int .i64 t] 30)))
  have HC2 := Lib.hid (hrc.to (cur_new w (.cells #[.int .i64 f, .int .i64 t] 30)))
  have HKW := Lib.hid (Blk.new w 30 [.int .i64 f, .int .i64 t])
  clear her hra hrc
  by_cases hne : er ≠ 0
  · rw [if_pos hne] at hv
    subst hv
    go_enter Try.func18, Try.ntmps18
    go_wp2_with (go_at_call 11; refine (check_p _ _ _ _ _ _ _ _ (by omega) (by omega) HA2.out HC2.out).mono ?_; rintro e w1 ⟨rfl, hb⟩; rw [HER.out]; have HB := Lib.hid (cur_step0 hb); clear hb)
    go_ret
    exact ⟨rfl, HB.out⟩
  rw [if_neg hne] at hv
  have her0 : er = 0 := by omega
  subst her0
  clear hne
  by_cases hft : t < f
  · rw [if_pos hft] at hv
    subst hv
    go_enter Try.func18, Try.ntmps18
    go_wp2_with (go_at_call 11; refine (check_p _ _ _ _ _ _ _ _ (by omega) (by omega) HA2.out HC2.out).mono ?_; rintro e w1 ⟨rfl, hb⟩; rw [HER.out]; have HB := Lib.hid (cur_step0 hb); have HK1 := Lib.hid (HKW.out.to hb); have k0 : w1.cell? ⟨w.heap.size, 0, none⟩ = some (.int .i64 f) := HK1.out.cell 0; have k1 : w1.cell? ⟨w.heap.size, 1, none⟩ = some (.int .i64 t) := HK1.out.cell 1; clear hb)
    go_ret
    exact ⟨rfl, HB.out⟩
  rw [if_neg hft] at hv
  obtain ⟨vi, hvi⟩ : ∃ vi, insT js f t = vi := ⟨_, rfl⟩
  obtain ⟨vr, hvr⟩ : ∃ vr, roomT f t first caps = vr := ⟨_, rfl⟩
  rw [hvi, hvr] at hv
  have HVI := Lib.hid hvi
  have HVR := Lib.hid hvr
  have HV := Lib.hid hv
  have hvil : vi ≤ 400 := by rw [← hvi]; exact Nat.le_trans (insT_le _ _ _) hjl
  clear hvi hvr hv
  go_enter Try.func18, Try.ntmps18
  go_wp2_with (go_at_call 11; refine (check_p _ _ _ _ _ _ _ _ (by omega) (by omega) HA2.out HC2.out).mono ?_; rintro e w1 ⟨rfl, hb⟩; rw [HER.out]; have HB := Lib.hid (cur_step0 hb); have HK1 := Lib.hid (HKW.out.to hb); have k0 : w1.cell? ⟨w.heap.size, 0, none⟩ = some (.int .i64 f) := HK1.out.cell 0; have k1 : w1.cell? ⟨w.heap.size, 1, none⟩ = some (.int .i64 t) := HK1.out.cell 1; clear hb)
  obtain ⟨CS, hCS⟩ : ∃ CS : List (Nat × Nat × Value), CS = [(w.heap.size, 0, .int .i64 f), (w.heap.size, 1, .int .i64 t)] := ⟨_, rfl⟩
  have K3 : Keep w1 w1 CS := by
    rw [hCS]
    refine Keep.start (Below.refl _ _) ?_
    intro c hc
    simp only [List.mem_cons, List.mem_nil_iff, or_false] at hc
    rcases hc with rfl | rfl
    · exact ⟨HK1.out.lt, k0⟩
    · exact ⟨HK1.out.lt, k1⟩
  clear k0 k1
  have k0 : ∀ s : Wd w1 CS, s.w.cell? ⟨w.heap.size, 0, none⟩ = some (.int .i64 f) := fun s => s.h.get (by simp [hCS])
  have k1 : ∀ s : Wd w1 CS, s.w.cell? ⟨w.heap.size, 1, none⟩ = some (.int .i64 t) := fun s => s.h.get (by simp [hCS])
  have HRA := Lib.hid (show ∀ s : Wd w1 CS, Rd jbE 2 s.w s.w.heap.size A js from fun s => HA.out.to (cur_step1 HB.out s.h.1))
  have HRC := Lib.hid (show ∀ s : Wd w1 CS, Rd inE 1 s.w s.w.heap.size C caps from fun s => HC.out.to (cur_step1 HB.out s.h.1))
  have hex : ∀ s : Wd w1 CS, ∃ s' : Wd w1 CS, s.w = s'.w := fun s => ⟨s, rfl⟩
  haveI hne : Nonempty (Wd w1 CS) := ⟨⟨_, K3⟩⟩
  clear hCS
  refine wp_region_wd w1 CS (by kernel_rfl) (by kernel_rfl) K3.drew ?_
  repeat (go_big_quiet_step (first
    | (go_at_call 16; refine (inside_p _ _ _ _ _ _ (by omega) (HRA.out _)).mono ?_; rintro e w4 ⟨rfl, hb4⟩; exact ⟨rfl, ⟨w4, (Wd.h _).to hb4⟩, rfl⟩)
    | (go_at_call 14; refine (room_p _ _ _ _ _ _ _ hcl (HRC.out _)).mono ?_; rintro e w4 ⟨rfl, hb4⟩; exact ⟨rfl, ⟨w4, (Wd.h _).to hb4⟩, rfl⟩)))
  refine wpQuiet_nil ?_
  rintro w6 ⟨s6, hs6⟩
  have B6 : Below w.heap.size w w6 := by rw [hs6]; exact cur_step1 HB.out s6.h.1
  clear hs6 s6 k0 k1 hex hne K3 HRA HRC CS
  (try simp only [])
  rw [HVI.out, HVR.out]
  have HB6 := Lib.hid B6
  clear B6
  by_cases hle : (vi : Int) ≤ vr
  · have hd : decide ((vi : Int) ≤ vr) = true := decide_eq_true hle
    rw [hd]
    go_wp2_with fail
    go_ret
    exact ⟨ret_int (by rw [← HV.out, if_pos (by omega)]), HB6.out⟩
  · have hd : decide ((vi : Int) ≤ vr) = false := decide_eq_false hle
    rw [hd]
    go_wp2_with fail
    go_ret
    exact ⟨ret_int (by rw [← HV.out, if_neg (by omega)]), HB6.out⟩
theorem refutes_r (A C : Option Addr) (jc cc : Nat) (js : List Jb) (caps : List Int) (first f t : Int) (w : World) (hjl : js.length ≤ 400) (hcl : caps.length ≤ 400) (hra : Rd jbE 2 w w.heap.size A js) (hrc : Rd inE 1 w w.heap.size C caps) :
    Calls Try.prog 19 #[.slice A js.length jc, .int .i64 first, .slice C caps.length cc, .agg #[.int .i64 f, .int .i64 t]] w fun e w' => e = .returned (.int .i64 (refT js first caps f t)) ∧ Below w.heap.size w w' := by
  obtain ⟨v, hv⟩ : ∃ v, refT js first caps f t = v := ⟨_, rfl⟩
  rw [hv]
  unfold refT at hv
  obtain ⟨er, her⟩ : ∃ er, ckT js first caps = er := ⟨_, rfl⟩
  rw [her] at hv
  have HER := Lib.hid her
  have HA := Lib.hid hra
  have HC := Lib.hid hrc
  have HA2 := Lib.hid (hra.to (cur_new w (.cells #[.int .i64 f, .int .i64 t] 30)))
  have HC2 := Lib.hid (hrc.to (cur_new w (.cells #[.int .i64 f, .int .i64 t] 30)))
  have HKW := Lib.hid (Blk.new w 30 [.int .i64 f, .int .i64 t])
  clear her hra hrc
  by_cases hne : er ≠ 0
  · rw [if_pos hne] at hv
    subst hv
    go_enter Try.func19, Try.ntmps19
    go_wp2_with (go_at_call 12; refine (check_r _ _ _ _ _ _ _ _ (by omega) (by omega) HA2.out HC2.out).mono ?_; rintro e w1 ⟨rfl, hb⟩; rw [HER.out]; have HB := Lib.hid (cur_step0 hb); clear hb)
    go_ret
    exact ⟨rfl, HB.out⟩
  rw [if_neg hne] at hv
  have her0 : er = 0 := by omega
  subst her0
  clear hne
  by_cases hft : t < f
  · rw [if_pos hft] at hv
    subst hv
    go_enter Try.func19, Try.ntmps19
    go_wp2_with (go_at_call 12; refine (check_r _ _ _ _ _ _ _ _ (by omega) (by omega) HA2.out HC2.out).mono ?_; rintro e w1 ⟨rfl, hb⟩; rw [HER.out]; have HB := Lib.hid (cur_step0 hb); have HK1 := Lib.hid (HKW.out.to hb); have k0 : w1.cell? ⟨w.heap.size, 0, none⟩ = some (.int .i64 f) := HK1.out.cell 0; have k1 : w1.cell? ⟨w.heap.size, 1, none⟩ = some (.int .i64 t) := HK1.out.cell 1; clear hb)
    go_ret
    exact ⟨rfl, HB.out⟩
  rw [if_neg hft] at hv
  obtain ⟨vi, hvi⟩ : ∃ vi, insT js f t = vi := ⟨_, rfl⟩
  obtain ⟨vr, hvr⟩ : ∃ vr, roomT f t first caps = vr := ⟨_, rfl⟩
  rw [hvi, hvr] at hv
  have HVI := Lib.hid hvi
  have HVR := Lib.hid hvr
  have HV := Lib.hid hv
  have hvil : vi ≤ 400 := by rw [← hvi]; exact Nat.le_trans (insT_le _ _ _) hjl
  clear hvi hvr hv
  go_enter Try.func19, Try.ntmps19
  go_wp2_with (go_at_call 12; refine (check_r _ _ _ _ _ _ _ _ (by omega) (by omega) HA2.out HC2.out).mono ?_; rintro e w1 ⟨rfl, hb⟩; rw [HER.out]; have HB := Lib.hid (cur_step0 hb); have HK1 := Lib.hid (HKW.out.to hb); have k0 : w1.cell? ⟨w.heap.size, 0, none⟩ = some (.int .i64 f) := HK1.out.cell 0; have k1 : w1.cell? ⟨w.heap.size, 1, none⟩ = some (.int .i64 t) := HK1.out.cell 1; clear hb)
  obtain ⟨CS, hCS⟩ : ∃ CS : List (Nat × Nat × Value), CS = [(w.heap.size, 0, .int .i64 f), (w.heap.size, 1, .int .i64 t)] := ⟨_, rfl⟩
  have K3 : Keep w1 w1 CS := by
    rw [hCS]
    refine Keep.start (Below.refl _ _) ?_
    intro c hc
    simp only [List.mem_cons, List.mem_nil_iff, or_false] at hc
    rcases hc with rfl | rfl
    · exact ⟨HK1.out.lt, k0⟩
    · exact ⟨HK1.out.lt, k1⟩
  clear k0 k1
  have k0 : ∀ s : Wd w1 CS, s.w.cell? ⟨w.heap.size, 0, none⟩ = some (.int .i64 f) := fun s => s.h.get (by simp [hCS])
  have k1 : ∀ s : Wd w1 CS, s.w.cell? ⟨w.heap.size, 1, none⟩ = some (.int .i64 t) := fun s => s.h.get (by simp [hCS])
  have HRA := Lib.hid (show ∀ s : Wd w1 CS, Rd jbE 2 s.w s.w.heap.size A js from fun s => HA.out.to (cur_step1 HB.out s.h.1))
  have HRC := Lib.hid (show ∀ s : Wd w1 CS, Rd inE 1 s.w s.w.heap.size C caps from fun s => HC.out.to (cur_step1 HB.out s.h.1))
  have hex : ∀ s : Wd w1 CS, ∃ s' : Wd w1 CS, s.w = s'.w := fun s => ⟨s, rfl⟩
  haveI hne : Nonempty (Wd w1 CS) := ⟨⟨_, K3⟩⟩
  clear hCS
  refine wp_region_wd w1 CS (by kernel_rfl) (by kernel_rfl) K3.drew ?_
  repeat (go_big_quiet_step (first
    | (go_at_call 17; refine (inside_r _ _ _ _ _ _ (by omega) (HRA.out _)).mono ?_; rintro e w4 ⟨rfl, hb4⟩; exact ⟨rfl, ⟨w4, (Wd.h _).to hb4⟩, rfl⟩)
    | (go_at_call 15; refine (room_r _ _ _ _ _ _ _ hcl (HRC.out _)).mono ?_; rintro e w4 ⟨rfl, hb4⟩; exact ⟨rfl, ⟨w4, (Wd.h _).to hb4⟩, rfl⟩)))
  refine wpQuiet_nil ?_
  rintro w6 ⟨s6, hs6⟩
  have B6 : Below w.heap.size w w6 := by rw [hs6]; exact cur_step1 HB.out s6.h.1
  clear hs6 s6 k0 k1 hex hne K3 HRA HRC CS
  (try simp only [])
  rw [HVI.out, HVR.out]
  have HB6 := Lib.hid B6
  clear B6
  by_cases hle : (vi : Int) ≤ vr
  · have hd : decide ((vi : Int) ≤ vr) = true := decide_eq_true hle
    rw [hd]
    go_wp2_with fail
    go_ret
    exact ⟨ret_int (by rw [← HV.out, if_pos (by omega)]), HB6.out⟩
  · have hd : decide ((vi : Int) ≤ vr) = false := decide_eq_false hle
    rw [hd]
    go_wp2_with fail
    go_ret
    exact ⟨ret_int (by rw [← HV.out, if_neg (by omega)]), HB6.out⟩
end Go.Proofs.Ytnbhplhhemkniaa
