/-
  Chapter 56: the law ConductChecks: the walk.
-/
import Derived.Test.YtpgamjcaegbdoaaEq56
namespace Go.Proofs.Ytpgamjcaegbdoaa
open Go.RowKit
set_option maxRecDepth 100000
set_option maxHeartbeats 1000000
theorem few_len {α : Type} (l : List α) (n : Nat) : (l.take n).length = min l.length n := by rw [List.length_take, Nat.min_comm]
theorem law_checks (A : Option Addr) (c : Nat) (l : List Of) (p : ByteArray) (d : Int) (w : World) (hl : l.length ≤ 9223372036854775807) (hc : l.length ≤ c) (hr : Rd ofE 4 w w.heap.size A l) (hsz : ∀ z ∈ l, z.p.size ≤ 9223372036854775807) :
    Calls Try.prog 3 #[.slice A l.length c, .string p, .int .i64 d] w fun e w' => e = .returned (.bool true) ∧ Below w.heap.size w w' := by
  have HR := Lib.hid (hr.pre 16)
  obtain ⟨l', hl'⟩ : ∃ l', l' = l.take 16 := ⟨_, rfl⟩
  have hll : l'.length ≤ 2000 := by rw [hl', few_len]; omega
  have hllc : l'.length ≤ c := by rw [hl', few_len]; omega
  have HSZ := Lib.hid (show ∀ z ∈ l', z.p.size ≤ 9223372036854775807 from fun z h => hsz z (List.take_subset 16 l (by rw [← hl']; exact h)))
  have e2 : min l.length 16 = l'.length := by rw [hl', few_len]
  rw [← hl'] at HR
  have HF := Lib.hid (few_f A c l.length)
  rw [e2] at HF
  obtain ⟨r1, r2, hp⟩ : ∃ r1 r2, pointsS l' p d = (r1, r2) := ⟨_, _, rfl⟩
  have HP := Lib.hid hp
  obtain ⟨r, hck⟩ : ∃ r, ckO l' = r := ⟨_, rfl⟩
  have HCK := Lib.hid hck
  clear hr hsz hl' e2 hp hck
  go_enter Try.func3, Try.ntmps3
  go_wp2_with (first
    | (go_at_call 8; refine (awake_any _).mono ?_; rintro e w1 ⟨rfl, hb1⟩; have HB := Lib.hid hb1; clear hb1)
    | (go_at_call 9; refine (HF.out _ hl hc).mono ?_; rintro e wn ⟨rfl, hbn⟩; replace HB := Lib.hid (cur_step1 HB.out hbn); clear hbn)
    | (go_at_call 10; refine (Points_p A c l' p d r1 r2 _ hll hllc (HR.out.to HB.out) HSZ.out HP.out).mono ?_; rintro e wn ⟨rfl, hbn⟩; replace HB := Lib.hid (cur_step1 HB.out hbn); clear hbn)
    | (go_at_call 11; refine (Points_r A c l' p d r1 r2 _ hll hllc (HR.out.to HB.out) HSZ.out HP.out).mono ?_; rintro e wn ⟨rfl, hbn⟩; replace HB := Lib.hid (cur_step1 HB.out hbn); clear hbn)
    | (go_at_call 12; refine (ck_p A c l' r _ hll (HR.out.to HB.out) HSZ.out HCK.out).mono ?_; rintro e wn ⟨rfl, hbn⟩; replace HB := Lib.hid (cur_step1 HB.out hbn); clear hbn)
    | (go_at_call 13; refine (ck_r A c l' r _ hll (HR.out.to HB.out) hllc HSZ.out HCK.out).mono ?_; rintro e wn ⟨rfl, hbn⟩; replace HB := Lib.hid (cur_step1 HB.out hbn); clear hbn))
  all_goals
    go_ret
    exact ⟨ret_bool (by simp), HB.out⟩
end Go.Proofs.Ytpgamjcaegbdoaa
