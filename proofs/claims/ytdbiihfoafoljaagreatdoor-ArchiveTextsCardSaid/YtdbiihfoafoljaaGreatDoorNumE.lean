/-
  text.decimal and text.Number.
-/
import Derived.Test.YtdbiihfoafoljaaGreatDoorLibE
import Derived.Test.YtdbiihfoafoljaaGreatDoorNumP
import Derived.Test.YtdbiihfoafoljaaGreatDoorName
import Derived.Deep.QuietTactic
import Derived.BigQuiet
set_option linter.unusedSimpArgs false
set_option linter.unusedVariables false
namespace Go.Proofs.YtdbiihfoafoljaaGreatDoor
open Go.RowKit
set_option maxRecDepth 100000
set_option maxHeartbeats 1000000
theorem ret_two {a b c d : Int} {k1 k2 : IntKind} (h1 : a = b) (h2 : c = d) : Ending.returned (.tuple #[.int k1 a, .int k2 c]) = .returned (.tuple #[.int k1 b, .int k2 d]) := by rw [h1, h2]

theorem bytes_list (s : ByteArray) : s.toList = s.data.toList := ByteArray.toList_eq ..
theorem mk_list (l : List UInt8) : (ByteArray.mk l.toArray).toList = l := by rw [bytes_list]
theorem head_at {D : ByteArray} {B : List UInt8} (hB : D.toList = B) (h : 0 < D.size) : B.head? = some D[0] := by
  rw [bytes_list] at hB
  subst hB
  rw [List.head?_eq_getElem?, List.getElem?_eq_getElem (by simpa using h)]
  rfl
theorem byte_ext {c : UInt8} (h : (c.toNat : Int) = 48) : c = 48 := by
  apply UInt8.toNat_inj.1
  have : c.toNat = 48 := by omega
  rw [this]; rfl
theorem bodyL_len (l : List UInt8) : (bodyL l).length ≤ l.length := by
  unfold bodyL
  split
  · rw [List.length_tail]; omega
  · exact Nat.le_refl _
/-- The decimal's test. -/
theorem decimal_t (s : ByteArray) (hs : s.size ≤ 281474976710656) (w : World) : Calls Tryz.prog 58 #[.string s] w fun e w' => e = .returned (.bool (numOk s.data.toList)) ∧ Below w.heap.size w w' := by
  obtain ⟨v, hv⟩ : ∃ v, numOk s.data.toList = v := ⟨_, rfl⟩
  rw [hv]
  obtain ⟨D, hD⟩ : ∃ D : ByteArray, (⟨(bodyL s.data.toList).toArray⟩ : ByteArray) = D := ⟨_, rfl⟩
  have HD := Lib.hid hD
  have hB : D.toList = bodyL s.data.toList := by rw [← hD, mk_list]
  have hsz : D.size ≤ 9223372036854775807 := by
    rw [← hD]
    have := bodyL_len s.data.toList
    have e1 : s.data.toList.length = s.size := by simp
    show (bodyL s.data.toList).toArray.size ≤ _
    rw [List.size_toArray]
    omega
  have hn : numOk s.data.toList = (!D.toList.isEmpty && !(D.toList.head? == some 48 && !(s.toList == [48])) && D.toList.all digB) := by
    rw [hB, bytes_list]; rfl
  rw [hv] at hn
  have HN := Lib.hid hn
  have HSZ := Lib.hid hsz
  clear hD hB hn hv hsz
  have trimE : ∀ B : List UInt8, (Lib.trimS B [48, 49, 50, 51, 52, 53, 54, 55, 56, 57]).isEmpty = B.all digB := fun B => by
    rw [Bool.eq_iff_iff, List.isEmpty_iff]; exact trimS_digs B
  have TE := Lib.hid trimE
  clear trimE
  by_cases hE : D.toList = []
  · go_enter Tryz.func58, Tryz.ntmps58
    go_wp2_with (go_at_call 85; refine (Tryz.trimp_p _ _ _).mono ?_; rintro e w1 ⟨rfl, rfl⟩; rw [show (Lib.trimPrefix s.data.toList (ByteArray.mk #[45]).data.toList) = bodyL s.data.toList from trimPrefix_minus _, HD.out])
    go_ret
    exact ⟨ret_bool (by rw [HN.out, hE]; rfl), Below.refl _ _⟩
  have h0 : 0 < D.size := by
    rcases Nat.eq_zero_or_pos D.size with h | h
    · exact absurd (by rw [bytes_list]; exact List.eq_nil_of_length_eq_zero (by simpa using h)) hE
    · exact h
  have hI : D.toList.isEmpty = false := by rw [Bool.eq_false_iff]; intro h; exact hE (List.isEmpty_iff.1 h)
  have hH := head_at rfl h0
  rw [hI, hH] at HN
  have HH := Lib.hid hH
  clear hE hH
  by_cases hc : (D[0].toNat : Int) = 48
  · have hc2 : (some D[0] == some (48 : UInt8)) = true := by rw [byte_ext hc]; rfl
    rw [hc2] at HN
    clear hc2
    cases hz : (s.toList == [48])
    all_goals
      rw [hz] at HN
      have HZ := Lib.hid hz
      have hz' : (!(s.toList == [48])) = !(s.toList == [48]) := rfl
      rw (occs := [2]) [hz] at hz'
      clear hz
      go_enter Tryz.func58, Tryz.ntmps58
      go_wp2_with (first
        | (go_at_call 85; refine (Tryz.trimp_p _ _ _).mono ?_; rintro e w1 ⟨rfl, rfl⟩; rw [show (Lib.trimPrefix s.data.toList (ByteArray.mk #[45]).data.toList) = bodyL s.data.toList from trimPrefix_minus _, HD.out])
        | (go_at_call 86; refine (Tryz.trim_p _ _ _ HSZ.out (by decide) (by decide)).mono ?_; rintro e w1 ⟨rfl, hb⟩; have HB := Lib.hid hb; clear hb))
    · go_ret
      exact ⟨ret_bool (by rw [HN.out]; rfl), Below.refl _ _⟩
    · go_ret
      exact ⟨ret_bool (by rw [HN.out, TE.out, bytes_list D]; rfl), HB.out⟩
  · have hc2 : (some D[0] == some (48 : UInt8)) = false := by
      rw [Bool.eq_false_iff]; intro h
      have := eq_of_beq h
      simp only [Option.some.injEq] at this
      rw [this] at hc
      exact hc rfl
    rw [hc2] at HN
    clear hc2
    go_enter Tryz.func58, Tryz.ntmps58
    go_wp2_with (first
      | (go_at_call 85; refine (Tryz.trimp_p _ _ _).mono ?_; rintro e w1 ⟨rfl, rfl⟩; rw [show (Lib.trimPrefix s.data.toList (ByteArray.mk #[45]).data.toList) = bodyL s.data.toList from trimPrefix_minus _, HD.out])
      | (go_at_call 86; refine (Tryz.trim_p _ _ _ HSZ.out (by decide) (by decide)).mono ?_; rintro e w1 ⟨rfl, hb⟩; have HB := Lib.hid hb; clear hb))
    go_ret
    exact ⟨ret_bool (by rw [HN.out, TE.out, bytes_list D]; rfl), HB.out⟩

/-- What the library's functions want of a world. -/
structure LibW (w : World) : Prop where
  maxlen : ∃ m, w.cell? ⟨0, 0, none⟩ = some (.int .i64 m)
  errR : ∃ ev, w.cell? ⟨3, 0, none⟩ = some ev ∧ (ev = .nilIface ∨ ∃ te pe, ev = .iface te pe)
  tab : Lib.TabIs Tryz.prog w "internal/strconv.uint64pow10" .u64 Lib.pow10Tab
theorem var_lt {P : Program} {w : World} {n : String} {cs : Array Value} {g : Nat} (hg : P.globalNamed n = some g) (h : w.var? P n = some cs) : g < w.heap.size := by
  unfold World.var? at h
  rw [hg] at h
  rcases Nat.lt_or_ge g w.heap.size with h1 | h1
  · exact h1
  · simp [Array.getElem?_eq_none h1] at h
theorem LibW.to {w w' : World} (h : LibW w) (hb : Below w.heap.size w w') : LibW w' := by
  obtain ⟨⟨m, h1⟩, ⟨ev, h2, h3⟩, h4⟩ := h
  refine ⟨⟨m, (hb.cell (Lib.lt_of_cell h1)).trans h1⟩, ⟨ev, (hb.cell (Lib.lt_of_cell h2)).trans h2, h3⟩, ?_⟩
  have hg : Tryz.prog.globalNamed "internal/strconv.uint64pow10" = some 1 := by kernel_rfl
  unfold Lib.TabIs at h4 ⊢
  have hlt := var_lt hg h4
  rw [← h4]
  unfold World.var?
  rw [hg]
  simp only [Option.bind_eq_bind, Option.bind_some]
  rw [hb.block _ hlt]

theorem number_t (s : ByteArray) (hs : s.size ≤ 281474976710656) (lo hi : Int) (hlo : -9223372036854775808 ≤ lo) (hhi : hi ≤ 9223372036854775807) (w : World) (hw : LibW w) :
    Calls Tryz.prog 30 #[.string s, .int .i64 lo, .int .i64 hi] w fun e w' => e = .returned (.tuple #[.int .i64 (numP s.data.toList lo hi).1, .int .i64 (numP s.data.toList lo hi).2]) ∧ Below w.heap.size w w' := by
  obtain ⟨x, y, hv⟩ : ∃ x y, numP s.data.toList lo hi = (x, y) := ⟨_, _, rfl⟩
  rw [hv]
  obtain ⟨V, hV⟩ : ∃ V, valD s.data.toList = V := ⟨_, rfl⟩
  have hof : (if numOk s.data.toList then (if V < lo ∨ hi < V then (0, 2) else (V, 0)) else (0, 4)) = (x, y) := by rw [← hV]; exact hv
  cases hok : numOk s.data.toList
  · have HK := Lib.hid hok
    rw [hok] at hof
    have HOF := Lib.hid hof
    clear hv hof hok hw
    go_enter Tryz.func30, Tryz.ntmps30
    go_wp2_with (go_at_call 58; refine (decimal_t _ hs _).mono ?_; rintro e w1 ⟨rfl, hb⟩; rw [HK.out]; have HB := Lib.hid hb; clear hb)
    go_ret2
    exact ⟨ret_two (congrArg Prod.fst HOF.out) (congrArg Prod.snd HOF.out), HB.out⟩
  have HK := Lib.hid hok
  rw [hok, if_pos rfl] at hof
  have hp := parseIntB_num hok
  rw [hV] at hp
  have HW := Lib.hid hw
  by_cases hr : -9223372036854775808 ≤ V ∧ V ≤ 9223372036854775807
  · rw [if_pos hr] at hp
    have HP := Lib.hid hp
    obtain ⟨hr1, hr2⟩ := hr
    by_cases hq : V < lo ∨ hi < V
    · rw [if_pos hq] at hof
      have HOF := Lib.hid hof
      have HQ := Lib.hid hq
      clear hv hof hok hw hp hq hV
      go_enter Tryz.func30, Tryz.ntmps30
      go_wp2_with (first
        | (go_at_call 58; refine (decimal_t _ hs _).mono ?_; rintro e w1 ⟨rfl, hb⟩; rw [HK.out]; have HB := Lib.hid hb; clear hb)
        | (go_at_call 59; refine (Tryz.parse_ok _ (by omega) V HP.out _).mono ?_; rintro e w2 ⟨rfl, hb2⟩; have HB2 := Lib.hid hb2; clear hb2))
      all_goals first
        | (exfalso; have := HQ.out; omega)
        | (go_ret2; exact ⟨ret_two (congrArg Prod.fst HOF.out) (congrArg Prod.snd HOF.out), HB.out.trans (HB2.out.mono HB.out.size)⟩)
    · rw [if_neg hq] at hof
      have HOF := Lib.hid hof
      have q1 : ¬ V < lo := fun h => hq (.inl h)
      have q2 : ¬ hi < V := fun h => hq (.inr h)
      clear hv hof hok hw hp hq hV
      go_enter Tryz.func30, Tryz.ntmps30
      go_wp2_with (first
        | (go_at_call 58; refine (decimal_t _ hs _).mono ?_; rintro e w1 ⟨rfl, hb⟩; rw [HK.out]; have HB := Lib.hid hb; clear hb)
        | (go_at_call 59; refine (Tryz.parse_ok _ (by omega) V HP.out _).mono ?_; rintro e w2 ⟨rfl, hb2⟩; have HB2 := Lib.hid hb2; clear hb2))
      go_ret2
      exact ⟨ret_two (congrArg Prod.fst HOF.out) (congrArg Prod.snd HOF.out), HB.out.trans (HB2.out.mono HB.out.size)⟩
  · rw [if_neg hr] at hp
    have HP := Lib.hid hp
    rw [if_pos (by omega)] at hof
    have HOF := Lib.hid hof
    clear hv hof hok hw hp hr hV
    go_enter Tryz.func30, Tryz.ntmps30
    go_wp2_with (first
      | (go_at_call 58; refine (decimal_t _ hs _).mono ?_; rintro e w1 ⟨rfl, hb⟩; rw [HK.out]; obtain ⟨ev, ev1, ev2⟩ := (HW.out.to hb).errR; have HE1 := Lib.hid ev1; have HE2 := Lib.hid ev2; clear ev1 ev2; have HB := Lib.hid hb; clear hb)
      | (go_at_call 59; refine (Tryz.parse_range _ hs HP.out _ _ HE1.out HE2.out).mono ?_; rintro e w2 ⟨_, _, _, rfl, hb2⟩; have HB2 := Lib.hid hb2; clear hb2))
    go_ret2
    exact ⟨ret_two (congrArg Prod.fst HOF.out) (congrArg Prod.snd HOF.out), HB.out.trans (HB2.out.mono HB.out.size)⟩
end Go.Proofs.YtdbiihfoafoljaaGreatDoor
