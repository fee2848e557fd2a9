/-
  text.decimal, text.Number (of a good numeral), text.Decimal (of a small number).
-/
import Derived.Test.YtkmkdknjpnkkpaaGreatDoorLeaf47
import Derived.Test.YtkmkdknjpnkkpaaGreatDoorLib47
import Derived.Test.YtkmkdknjpnkkpaaGreatDoorNumP
set_option linter.unusedSimpArgs false
set_option linter.unusedVariables false
namespace Go.Proofs.YtkmkdknjpnkkpaaGreatDoor
open Go.RowKit
set_option maxRecDepth 100000
set_option maxHeartbeats 1000000

theorem bytes_list (s : ByteArray) : s.toList = s.data.toList := ByteArray.toList_eq ..
theorem mk_list (l : List UInt8) : (ByteArray.mk l.toArray).toList = l := by rw [bytes_list]
theorem head_at {D : ByteArray} {B : List UInt8} (hB : D.toList = B) (h : 0 < D.size) : B.head? = some D[0] := by
  rw [bytes_list] at hB
  subst hB
  rw [List.head?_eq_getElem?, List.getElem?_eq_getElem (by simpa using h)]
  rfl
theorem byte_ext {c : UInt8} (h : (c.toNat : Int) = 48) : c = 48 := by
  apply UInt8.toNat_inj.1
  have : c.toNat = 48 := by omega
  rw [this]; rfl
theorem bodyL_len (l : List UInt8) : (bodyL l).length ≤ l.length := by
  unfold bodyL
  split
  · rw [List.length_tail]; omega
  · exact Nat.le_refl _
/-- The decimal's test. -/
theorem decimal_t (s : ByteArray) (hs : s.size ≤ 281474976710656) (w : World) : Calls Tryz.prog 53 #[.string s] w fun e w' => e = .returned (.bool (numOk s.data.toList)) ∧ Below w.heap.size w w' := by
  obtain ⟨v, hv⟩ : ∃ v, numOk s.data.toList = v := ⟨_, rfl⟩
  rw [hv]
  obtain ⟨D, hD⟩ : ∃ D : ByteArray, (⟨(bodyL s.data.toList).toArray⟩ : ByteArray) = D := ⟨_, rfl⟩
  have HD := Lib.hid hD
  have hB : D.toList = bodyL s.data.toList := by rw [← hD, mk_list]
  have hsz : D.size ≤ 9223372036854775807 := by
    rw [← hD]
    have := bodyL_len s.data.toList
    have e1 : s.data.toList.length = s.size := by simp
    show (bodyL s.data.toList).toArray.size ≤ _
    rw [List.size_toArray]
    omega
  have hn : numOk s.data.toList = (!D.toList.isEmpty && !(D.toList.head? == some 48 && !(s.toList == [48])) && D.toList.all digB) := by
    rw [hB, bytes_list]; rfl
  rw [hv] at hn
  have HN := Lib.hid hn
  have HSZ := Lib.hid hsz
  clear hD hB hn hv hsz
  have trimE : ∀ B : List UInt8, (Lib.trimS B [48, 49, 50, 51, 52, 53, 54, 55, 56, 57]).isEmpty = B.all digB := fun B => by
    rw [Bool.eq_iff_iff, List.isEmpty_iff]; exact trimS_digs B
  have TE := Lib.hid trimE
  clear trimE
  by_cases hE : D.toList = []
  · go_enter Tryz.func53, Tryz.ntmps53
    go_wp2_with (go_at_call 63; refine (Tryz.trimp_p _ _ _).mono ?_; rintro e w1 ⟨rfl, rfl⟩; rw [show (Lib.trimPrefix s.data.toList (ByteArray.mk #[45]).data.toList) = bodyL s.data.toList from trimPrefix_minus _, HD.out])
    go_ret
    exact ⟨ret_bool (by rw [HN.out, hE]; rfl), Below.refl _ _⟩
  have h0 : 0 < D.size := by
    rcases Nat.eq_zero_or_pos D.size with h | h
    · exact absurd (by rw [bytes_list]; exact List.eq_nil_of_length_eq_zero (by simpa using h)) hE
    · exact h
  have hI : D.toList.isEmpty = false := by rw [Bool.eq_false_iff]; intro h; exact hE (List.isEmpty_iff.1 h)
  have hH := head_at rfl h0
  rw [hI, hH] at HN
  have HH := Lib.hid hH
  clear hE hH
  by_cases hc : (D[0].toNat : Int) = 48
  · have hc2 : (some D[0] == some (48 : UInt8)) = true := by rw [byte_ext hc]; rfl
    rw [hc2] at HN
    clear hc2
    cases hz : (s.toList == [48])
    all_goals
      rw [hz] at HN
      have HZ := Lib.hid hz
      have hz' : (!(s.toList == [48])) = !(s.toList == [48]) := rfl
      rw (occs := [2]) [hz] at hz'
      clear hz
      go_enter Tryz.func53, Tryz.ntmps53
      go_wp2_with (first
        | (go_at_call 63; refine (Tryz.trimp_p _ _ _).mono ?_; rintro e w1 ⟨rfl, rfl⟩; rw [show (Lib.trimPrefix s.data.toList (ByteArray.mk #[45]).data.toList) = bodyL s.data.toList from trimPrefix_minus _, HD.out])
        | (go_at_call 64; refine (Tryz.trim_p _ _ _ HSZ.out (by decide) (by decide)).mono ?_; rintro e w1 ⟨rfl, hb⟩; have HB := Lib.hid hb; clear hb))
    · go_ret
      exact ⟨ret_bool (by rw [HN.out]; rfl), Below.refl _ _⟩
    · go_ret
      exact ⟨ret_bool (by rw [HN.out, TE.out, bytes_list D]; rfl), HB.out⟩
  · have hc2 : (some D[0] == some (48 : UInt8)) = false := by
      rw [Bool.eq_false_iff]; intro h
      have := eq_of_beq h
      simp only [Option.some.injEq] at this
      rw [this] at hc
      exact hc rfl
    rw [hc2] at HN
    clear hc2
    go_enter Tryz.func53, Tryz.ntmps53
    go_wp2_with (first
      | (go_at_call 63; refine (Tryz.trimp_p _ _ _).mono ?_; rintro e w1 ⟨rfl, rfl⟩; rw [show (Lib.trimPrefix s.data.toList (ByteArray.mk #[45]).data.toList) = bodyL s.data.toList from trimPrefix_minus _, HD.out])
      | (go_at_call 64; refine (Tryz.trim_p _ _ _ HSZ.out (by decide) (by decide)).mono ?_; rintro e w1 ⟨rfl, hb⟩; have HB := Lib.hid hb; clear hb))
    go_ret
    exact ⟨ret_bool (by rw [HN.out, TE.out, bytes_list D]; rfl), HB.out⟩


theorem number_ok (s : ByteArray) (hs : s.size ≤ 281474976710656) (lo hi V : Int) (hok : numOk s.data.toList = true) (hp : Lib.parseIntB 64 s.data.toList = .ok V) (h1 : lo ≤ V) (h2 : V ≤ hi) (w : World) :
    Calls Tryz.prog 43 #[.string s, .int .i64 lo, .int .i64 hi] w fun e w' => e = .returned (.tuple #[.int .i64 V, .int .i64 0]) ∧ Below w.heap.size w w' := by
  have HK := Lib.hid hok
  have HP := Lib.hid hp
  have q1 : ¬ V < lo := by omega
  have q2 : ¬ hi < V := by omega
  clear hok hp
  go_enter Tryz.func43, Tryz.ntmps43
  go_wp2_with (first
    | (go_at_call 53; refine (decimal_t _ hs _).mono ?_; rintro e w1 ⟨rfl, hb⟩; rw [HK.out]; have HB := Lib.hid hb; clear hb)
    | (go_at_call 54; refine (Tryz.parse_ok _ (by omega) V HP.out _).mono ?_; rintro e w2 ⟨rfl, hb2⟩; have HB2 := Lib.hid hb2; clear hb2))
  go_ret2
  exact ⟨rfl, HB.out.trans (HB2.out.mono HB.out.size)⟩
theorem decimal_s (i : Nat) (hi : i < 100) (w : World) : Calls Tryz.prog 55 #[.int .i64 i] w fun e w' => e = .returned (.string ⟨(Lib.decDigits i).toArray⟩) ∧ w = w' := by
  go_enter Tryz.func55, Tryz.ntmps55
  go_wp2_with (go_at_call 67; refine (Tryz.itoa_small i hi _).mono ?_; rintro e w1 ⟨rfl, rfl⟩)
  go_ret
  exact ⟨rfl, rfl⟩
end Go.Proofs.YtkmkdknjpnkkpaaGreatDoor
