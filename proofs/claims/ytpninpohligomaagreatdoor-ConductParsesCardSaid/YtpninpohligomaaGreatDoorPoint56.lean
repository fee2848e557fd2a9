/-
  Chapter 56: Points.
-/
import Derived.Test.YtpninpohligomaaGreatDoorCkR56
set_option linter.unusedSimpArgs false
set_option linter.unusedVariables false
namespace Go.Proofs.YtpninpohligomaaGreatDoor
open Go.RowKit
set_option maxRecDepth 100000
set_option maxHeartbeats 1000000
theorem ret_two {a b c d : Int} {k1 k2 : IntKind} (h1 : a = b) (h2 : c = d) : Ending.returned (.tuple #[.int k1 a, .int k2 c]) = .returned (.tuple #[.int k1 b, .int k2 d]) := by rw [h1, h2]
theorem Points_p (A : Option Addr) (c : Nat) (l : List Of) (p : ByteArray) (d r1 r2 : Int) (w : World) (hl : l.length ≤ 2000) (hlc : l.length ≤ c) (hr : Rd ofE 4 w w.heap.size A l) (hsz : ∀ z ∈ l, z.p.size ≤ 9223372036854775807) (hv : pointsS l p d = (r1, r2)) :
    Calls Tryz.prog 24 #[.slice A l.length c, .string p, .int .i64 d] w fun e w' => e = .returned (.tuple #[.int .i64 r1, .int .i64 r2]) ∧ Below w.heap.size w w' := by
  have HR := Lib.hid hr
  have HSZ := Lib.hid hsz
  unfold pointsS at hv
  by_cases h0 : ckO l = 0
  · rw [if_neg (by rw [h0]; simp)] at hv
    have H0 := Lib.hid h0
    have HOK := Lib.hid (show ∀ z ∈ l, 1 ≤ z.n ∧ z.n ≤ 8 from fun z hz => ((ck_pair h0).1 z hz).2.2.2)
    cases hd : isDayB d
    · rw [hd] at hv
      have HV := Lib.hid (show (0 : Int) = r1 ∧ (2 : Int) = r2 by injection hv with a b; exact ⟨a, b⟩)
      have HD := Lib.hid hd
      clear hv hr hsz h0 hd
      go_enter Tryz.func24, Tryz.ntmps24
      go_wp2_with (first
        | (go_at_call 27; refine (ck_p A c l 0 _ hl HR.out HSZ.out H0.out).mono ?_; rintro e w1 ⟨rfl, hb1⟩; have HB := Lib.hid hb1; clear hb1)
        | (go_at_call 45; refine (isDay_p _ _ _ HD.out).mono ?_; rintro e w2 ⟨rfl, rfl⟩))
      go_ret2
      exact ⟨ret_two HV.out.1 HV.out.2, HB.out⟩
    · rw [hd] at hv
      have HV := Lib.hid (show ptsL p d l = r1 ∧ (0 : Int) = r2 by injection hv with a b; exact ⟨a, b⟩)
      have HD := Lib.hid hd
      have hd2 : 0 ≤ d ∧ d ≤ 1000000 := by unfold isDayB at hd; simpa using hd
      clear hv hr hsz h0 hd
      go_enter Tryz.func24, Tryz.ntmps24
      go_wp2_with (first
        | (go_at_call 27; refine (ck_p A c l 0 _ hl HR.out HSZ.out H0.out).mono ?_; rintro e w1 ⟨rfl, hb1⟩; have HB := Lib.hid hb1; clear hb1)
        | (go_at_call 45; refine (isDay_p _ _ _ HD.out).mono ?_; rintro e w2 ⟨rfl, rfl⟩)
        | (go_at_call 46; refine (points_p A c l p d r1 _ hl (HR.out.to HB.out) HOK.out hd2 HV.out.1).mono ?_; rintro e w3 ⟨rfl, hb3⟩))
      go_ret2
      exact ⟨ret_two rfl HV.out.2, cur_step1 HB.out hb3⟩
  · rw [if_pos h0] at hv
    obtain ⟨q, hq⟩ : ∃ q, ckO l = q := ⟨_, rfl⟩
    have HV := Lib.hid (show (0 : Int) = r1 ∧ q = r2 by injection hv with a b; exact ⟨a, by rw [← hq]; exact b⟩)
    have HQ := Lib.hid hq
    have hqn : (q == 0) = false := by rw [← hq]; simpa using h0
    clear hv hr hsz h0 hq
    go_enter Tryz.func24, Tryz.ntmps24
    go_wp2_with (go_at_call 27; refine (ck_p A c l q _ hl HR.out HSZ.out HQ.out).mono ?_; rintro e w1 ⟨rfl, hb1⟩)
    go_ret2
    exact ⟨ret_two HV.out.1 HV.out.2, hb1⟩
end Go.Proofs.YtpninpohligomaaGreatDoor
