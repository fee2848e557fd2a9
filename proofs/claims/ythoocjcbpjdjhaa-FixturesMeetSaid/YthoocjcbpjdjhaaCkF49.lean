/-
  Chapter 49: Check of the program.
-/
import Derived.Test.YthoocjcbpjdjhaaFix49
import Derived.RegionTactic
namespace Go.Proofs.Ythoocjcbpjdjhaa
open Go.RowKit

theorem fixture_v (A : Option Addr) (c k : Nat) (l : List Fx) (n : Int) (d : Bool) (f : Fx) (v : Int) (w : World) (hl : l.length ≤ 400) (hlc : l.length ≤ c) (hn : 2 ≤ n ∧ n ≤ 20) (hf : l[k]? = some f) (hr : Rd fxE 3 w w.heap.size A l) (hv : fixL n d (l.take k) f = v) :
    Calls Try.prog 32 #[.slice A l.length c, .int .i64 k, .int .i64 n, .bool d] w fun e w' => e = .returned (.int .i64 v) ∧ Below w.heap.size w w' := by
  subst hv
  exact fixture_f A c k l n d f w hl hlc hn hf hr
theorem chk_bad {l : List Fx} {n : Int} {d : Bool} (h : n < 2 ∨ 20 < n) : checkL l n d = 2 := by unfold checkL; rw [if_pos h]
theorem chk_long {l : List Fx} {n : Int} {d : Bool} (h : 2 ≤ n ∧ n ≤ 20) (h1 : 400 < l.length) : checkL l n d = 9 := by unfold checkL; rw [if_neg (by omega), if_pos h1]
theorem chk_err {l : List Fx} {n : Int} {d : Bool} (h : 2 ≤ n ∧ n ≤ 20) (h1 : l.length ≤ 400) (h2 : fixFrom n d [] l ≠ 0) : checkL l n d = fixFrom n d [] l := by unfold checkL; rw [if_neg (by omega), if_neg (by omega), if_pos h2]
theorem chk_sum {l : List Fx} {n : Int} {d : Bool} (h : 2 ≤ n ∧ n ≤ 20) (h1 : l.length ≤ 400) (h2 : fixFrom n d [] l = 0) (h3 : (l.length : Int) ≠ wantN n d) : checkL l n d = 12 := by unfold checkL; rw [if_neg (by omega), if_neg (by omega), if_neg (by omega), if_pos h3]
theorem chk_fine {l : List Fx} {n : Int} {d : Bool} (h : 2 ≤ n ∧ n ≤ 20) (h1 : l.length ≤ 400) (h2 : fixFrom n d [] l = 0) (h3 : (l.length : Int) = wantN n d) : checkL l n d = 0 := by unfold checkL; rw [if_neg (by omega), if_neg (by omega), if_neg (by omega), if_neg (by omega)]
theorem mul_bd {n : Int} (h : 2 ≤ n ∧ n ≤ 20) : 0 ≤ n * (n - 1) ∧ n * (n - 1) ≤ 380 := by
  refine ⟨Int.mul_nonneg (by omega) (by omega), ?_⟩
  have := Int.mul_le_mul (a := n) (b := n - 1) (c := 20) (d := 19) (by omega) (by omega) (by omega) (by omega)
  omega

set_option maxRecDepth 100000 in
set_option maxHeartbeats 2000000 in
theorem check_f (A : Option Addr) (c : Nat) (l : List Fx) (n : Int) (d : Bool) (w : World) (hl : l.length ≤ 1000) (hlc : l.length ≤ c) (hr : Rd fxE 3 w w.heap.size A l) :
    Calls Try.prog 16 #[.slice A l.length c, .int .i64 n, .bool d] w fun e w' => e = .returned (.int .i64 (checkL l n d)) ∧ Below w.heap.size w w' := by
  by_cases h1 : n < 2 ∨ 20 < n
  · have H := Lib.hid (chk_bad (l := l) (d := d) h1)
    by_cases h2 : n < 2
    · clear h1
      go_enter Try.func16, Try.ntmps16
      go_wp2
      go_ret
      exact ⟨ret_int H.out.symm, Below.refl _ _⟩
    · have h3 : 20 < n := by omega
      clear h1
      go_enter Try.func16, Try.ntmps16
      go_wp2
      go_ret
      exact ⟨ret_int H.out.symm, Below.refl _ _⟩
  have hn : 2 ≤ n ∧ n ≤ 20 := by omega
  clear h1
  by_cases h2 : 400 < l.length
  · have H := Lib.hid (chk_long (d := d) hn h2)
    go_enter Try.func16, Try.ntmps16
    go_wp2
    go_ret
    exact ⟨ret_int H.out.symm, Below.refl _ _⟩
  have h3 : l.length ≤ 400 := by omega
  have hm := mul_bd hn
  go_enter Try.func16, Try.ntmps16
  go_wp2
  go_loopw [23] (IdxB w l.length (fun k => fixFrom n d (l.take k) (l.drop k) = fixFrom n d [] l)) (fun i _ => l.length - (intOf i).toNat)
  case atStart => exact IdxB.start rfl
  case round =>
    obtain ⟨k, hk, rfl, ht, hb⟩ := hrel
    have HT := Lib.hid ht
    clear ht
    by_cases hlt : k < l.length
    · obtain ⟨f, hf⟩ : ∃ f, l[k]? = some f := ⟨_, List.getElem?_eq_getElem hlt⟩
      have HN := Lib.hid (fix_now (n := n) (d := d) hf)
      have HF := Lib.hid hf
      clear hf
      by_cases hz : fixL n d (l.take k) f = 0
      · have HZ := Lib.hid hz
        have hnx : fixFrom n d (l.take (k + 1)) (l.drop (k + 1)) = fixFrom n d [] l := by rw [← HT.out, HN.out, if_pos hz]
        have HNX := Lib.hid hnx
        clear hz hnx
        go_wp2_with (go_at_call 32; refine (fixture_v A c k l n d f 0 _ h3 hlc hn HF.out (hr.to hb) HZ.out).mono ?_; rintro e w1 ⟨rfl, hb1⟩; have hcur := cur_step1 hb hb1)
        go_roundw
        case rel => exact IdxB.next hcur hlt HNX.out
        case measure => simp [intOf]; omega
      · obtain ⟨v, hv⟩ : ∃ v, v = fixL n d (l.take k) f := ⟨_, rfl⟩
        have hall : fixFrom n d [] l = v := by rw [← HT.out, HN.out, if_neg hz, hv]
        rw [← hv] at hz
        have HALL := Lib.hid ((chk_err hn h3 (by rw [hall]; exact hz)).trans hall)
        have HV := Lib.hid hv
        have hz2 : (v != 0) = true := by simpa using hz
        clear hv hall hz
        go_wp2_with (go_at_call 32; refine (fixture_v A c k l n d f v _ h3 hlc hn HF.out (hr.to hb) HV.out.symm).mono ?_; rintro e w1 ⟨rfl, hb1⟩; have hcur := cur_step1 hb hb1)
        go_ret
        exact ⟨ret_int HALL.out.symm, hcur⟩
    · have hall : fixFrom n d [] l = 0 := by
        rw [← HT.out, show k = l.length by omega, List.drop_length]; rfl
      have HALL := Lib.hid hall
      clear hall HT
      have hq : (n * (n - 1)).tdiv 2 = n * (n - 1) / 2 := Int.tdiv_eq_ediv_of_nonneg hm.1
      have HW0 := Lib.hid (show wantN n false = n * (n - 1) / 2 from hq)
      have HW1 := Lib.hid (show wantN n true = n * (n - 1) / 2 * 2 by show (n * (n - 1)).tdiv 2 * 2 = _; rw [hq])
      clear hq
      cases d
      · by_cases e1 : (l.length : Int) = n * (n - 1) / 2
        · have HE := Lib.hid (chk_fine (d := false) hn h3 HALL.out (by rw [HW0.out]; exact e1))
          have e2 : ((l.length : Int) != n * (n - 1) / 2) = false := by simpa using e1
          clear e1
          go_wp2
          go_ret
          exact ⟨ret_int HE.out.symm, hb⟩
        · have HE := Lib.hid (chk_sum (d := false) hn h3 HALL.out (by rw [HW0.out]; exact e1))
          have e2 : ((l.length : Int) != n * (n - 1) / 2) = true := by simpa using e1
          clear e1
          go_wp2
          go_ret
          exact ⟨ret_int HE.out.symm, hb⟩
      · by_cases e1 : (l.length : Int) = n * (n - 1) / 2 * 2
        · have HE := Lib.hid (chk_fine (d := true) hn h3 HALL.out (by rw [HW1.out]; exact e1))
          have e2 : ((l.length : Int) != n * (n - 1) / 2 * 2) = false := by simpa using e1
          clear e1
          go_wp2
          go_ret
          exact ⟨ret_int HE.out.symm, hb⟩
        · have HE := Lib.hid (chk_sum (d := true) hn h3 HALL.out (by rw [HW1.out]; exact e1))
          have e2 : ((l.length : Int) != n * (n - 1) / 2 * 2) = true := by simpa using e1
          clear e1
          go_wp2
          go_ret
          exact ⟨ret_int HE.out.symm, hb⟩
end Go.Proofs.Ythoocjcbpjdjhaa
