/-
  Texts of one chapter, put together (a claim holds at most sixty files).
-/
import Derived.Test.YtgkjcapoddjkhaaGreatDoorTxB
import Derived.Test.YtgkjcapoddjkhaaGreatDoorTxC
import Derived.Test.YtgkjcapoddjkhaaGreatDoorTxD
set_option linter.unusedSimpArgs false
set_option linter.unusedVariables false
namespace Go.Proofs.YtgkjcapoddjkhaaGreatDoor
section
/-! Chapter 3: the reference's small words and its quoted strings. -/
open Go.RowKit
set_option maxRecDepth 100000
set_option maxHeartbeats 4000000
theorem white_r (c : UInt8) (w : World) : Calls Tryz.prog 95 #[.int .u8 c.toNat] w fun e w' => e = .returned (.bool (whiteC c)) ∧ w = w' := by
  obtain ⟨v, hv⟩ : ∃ v, whiteC c = v := ⟨_, rfl⟩
  rw [hv]
  rw [whiteC_n] at hv
  generalize c.toNat = n at *
  by_cases h1 : n = 9
  · have g0 : ((n : Int) == 9) = true := by simp <;> omega
    by_cases h2 : n = 32
    · have g1 : ((n : Int) == 32) = true := by simp <;> omega
      have hv2 := Lib.hid hv
      clear hv
      go_enter Tryz.func95, Tryz.ntmps95
      go_wp2_with fail
      go_ret
      exact ⟨by rw [← hv2.out]; simp [h1, h2] <;> omega, rfl⟩
    · have g1 : ((n : Int) == 32) = false := by simp <;> omega
      have hv2 := Lib.hid hv
      clear hv
      go_enter Tryz.func95, Tryz.ntmps95
      go_wp2_with fail
      go_ret
      exact ⟨by rw [← hv2.out]; simp [h1, h2] <;> omega, rfl⟩
  · have g0 : ((n : Int) == 9) = false := by simp <;> omega
    by_cases h2 : n = 32
    · have g1 : ((n : Int) == 32) = true := by simp <;> omega
      have hv2 := Lib.hid hv
      clear hv
      go_enter Tryz.func95, Tryz.ntmps95
      go_wp2_with fail
      go_ret
      exact ⟨by rw [← hv2.out]; simp [h1, h2] <;> omega, rfl⟩
    · have g1 : ((n : Int) == 32) = false := by simp <;> omega
      have hv2 := Lib.hid hv
      clear hv
      go_enter Tryz.func95, Tryz.ntmps95
      go_wp2_with fail
      go_ret
      exact ⟨by rw [← hv2.out]; simp [h1, h2] <;> omega, rfl⟩
theorem wordb_r (c : UInt8) (w : World) : Calls Tryz.prog 97 #[.int .u8 c.toNat] w fun e w' => e = .returned (.bool (wordC c)) ∧ w = w' := by
  obtain ⟨v, hv⟩ : ∃ v, wordC c = v := ⟨_, rfl⟩
  rw [hv]
  rw [wordC_n] at hv
  generalize c.toNat = n at *
  by_cases h1 : 32 < n
  · have g1 : decide (32 < (n : Int)) = true := by simp <;> omega
    by_cases h2 : n ≤ 126
    · have g2 : decide ((n : Int) < 127) = true := by simp <;> omega
      by_cases h3 : n = 34
      · have g3 : ((n : Int) != 34) = false := by simp <;> omega
        have hv2 := Lib.hid (show v = false by rw [← hv]; simp [h1, h2, h3])
        clear hv h1 h2 h3
        go_enter Tryz.func97, Tryz.ntmps97
        go_wp2_with fail
        go_ret
        exact ⟨by rw [hv2.out]; rfl, rfl⟩
      · have g3 : ((n : Int) != 34) = true := by simp <;> omega
        by_cases h4 : n = 59
        · have g4 : ((n : Int) != 59) = false := by simp <;> omega
          have hv2 := Lib.hid (show v = false by rw [← hv]; simp [h1, h2, h3, h4])
          clear hv h1 h2 h3 h4
          go_enter Tryz.func97, Tryz.ntmps97
          go_wp2_with fail
          go_ret
          exact ⟨by rw [hv2.out]; rfl, rfl⟩
        · have g4 : ((n : Int) != 59) = true := by simp <;> omega
          have hv2 := Lib.hid (show v = true by rw [← hv]; simp [h1, h2, h3, h4])
          clear hv h1 h2 h3 h4
          go_enter Tryz.func97, Tryz.ntmps97
          go_wp2_with fail
          go_ret
          exact ⟨by rw [hv2.out]; rfl, rfl⟩
    · have g2 : decide ((n : Int) < 127) = false := by simp <;> omega
      have hv2 := Lib.hid (show v = false by rw [← hv]; simp [h1, h2])
      clear hv h1 h2
      go_enter Tryz.func97, Tryz.ntmps97
      go_wp2_with fail
      go_ret
      exact ⟨by rw [hv2.out]; rfl, rfl⟩
  · have g1 : decide (32 < (n : Int)) = false := by simp <;> omega
    have hv2 := Lib.hid (show v = false by rw [← hv]; simp [h1])
    clear hv h1
    go_enter Tryz.func97, Tryz.ntmps97
    go_wp2_with fail
    go_ret
    exact ⟨by rw [hv2.out]; rfl, rfl⟩
/-- What quoted answers: the text, the index behind it, the index of the first wrong byte. -/
def quoR (q : List UInt8 × Nat × Bool) : List UInt8 × Int × Int := if q.2.2 then (q.1, q.2.1, -1) else ([], 0, q.2.1)
def QrR (l : List UInt8) (i : Nat) (Q : List UInt8 × Nat × Bool) (w : World) (jv ov : Value) (wr : World) : Prop := ∃ (j : Nat) (acc : List UInt8), j ≤ l.length ∧ acc.length ≤ j ∧ jv = .int .i64 j ∧ ov = .string (sA acc) ∧ quoL j acc (l.drop j) = Q ∧ w = wr
theorem sA_one1 {l : List UInt8} {s : ByteArray} (hs : sA l = s) {j : Nat} {c : UInt8} (h : l[j]? = some c) : s.extract j (j + 1) = sA [c] := by
  rw [← hs]
  apply ByteArray.ext
  unfold sA
  rw [ByteArray.data_extract]
  apply Array.ext'
  simp only [Array.toList_extract, List.extract_eq_take_drop]
  rw [show j + 1 - j = 1 by omega]
  have hj := (List.getElem?_eq_some_iff.1 h)
  obtain ⟨h1, h2⟩ := hj
  rw [List.drop_eq_getElem_cons h1, h2]
  rfl
theorem sA_sum (a b : List UInt8) : sA a ++ sA b = sA (a ++ b) := by
  unfold sA
  ext1
  simp [ByteArray.data_append]
theorem quoted_r (l : List UInt8) (hl : l.length ≤ 1000000) (i : Nat) (hi : i < l.length) (w : World) : Calls Tryz.prog 96 #[.string (sA l), .int .i64 i] w fun e w' => e = .returned (.tuple #[.string (sA (quoR (quoL (i + 1) [] (l.drop (i + 1)))).1), .int .i64 (quoR (quoL (i + 1) [] (l.drop (i + 1)))).2.1, .int .i64 (quoR (quoL (i + 1) [] (l.drop (i + 1)))).2.2]) ∧ w = w' := by
  obtain ⟨Q, hQ⟩ : ∃ Q, quoL (i + 1) [] (l.drop (i + 1)) = Q := ⟨_, rfl⟩
  rw [hQ]
  obtain ⟨s, hs⟩ : ∃ s, sA l = s := ⟨_, rfl⟩
  have hsz : s.size = l.length := by rw [← hs, sA_sz]
  rw [hs]
  have HS := Lib.hid hs
  have HQ := Lib.hid hQ
  have HSZ := Lib.hid hsz
  have hs6 : s.size ≤ 1000000 := by omega
  clear hs hQ hsz
  go_enter Tryz.func96, Tryz.ntmps96
  go_wp2_with (fail)
  go_loopw [1, 7] (QrR l i Q w) (fun j _ _ => l.length - (intOf j).toNat)
  case atStart => exact ⟨i + 1, [], by omega, by simp, rfl, rfl, HQ.out, rfl⟩
  case round =>
    obtain ⟨j, acc, hj, hac, rfl, rfl, hq, rfl⟩ := hrel
    have HAC := Lib.hid hac
    obtain ⟨ac, hacs⟩ : ∃ y, sA acc = y := ⟨_, rfl⟩
    have hacz : ac.size ≤ 1000000 := by rw [← hacs, sA_sz]; omega
    rw [hacs]
    have HA := Lib.hid hacs
    clear hacs hac
    rcases hr : l.drop j with _ | ⟨c, r⟩
    · have hjl : j = l.length := by have := congrArg List.length hr; simp at this; omega
      have HQ2 := Lib.hid (show quoR Q = ([], 0, (s.size : Int)) by rw [← hq, hr, HSZ.out, ← hjl]; rfl)
      clear hq hr
      have hlt : decide ((j : Int) < s.size) = false := by have := HSZ.out; simp; omega
      have hnl : ¬ j < s.size := by have := HSZ.out; omega
      clear hjl
      go_wp2_with (fail)
      go_ret3
      rw [HQ2.out]
      exact ⟨rfl, rfl⟩
    · obtain ⟨hj1, hc, hr1⟩ := drop_cons hr
      obtain ⟨hz, hsj⟩ := sA_at HS.out hc
      have HX := Lib.hid (sA_one1 HS.out hc)
      have h256 : c.toNat < 256 := c.toNat_lt
      have hlt : decide ((j : Int) < s.size) = true := by have := HSZ.out; simp; omega
      have hjs : j + 1 ≤ s.size := by omega
      by_cases hp : printC c = true
      · have hpn : 32 ≤ c.toNat ∧ c.toNat ≤ 126 := by have := hp; rw [printC_n] at this; simpa using this
        have gp1 : decide ((c.toNat : Int) < 32) = false := by simp; omega
        have gp2 : decide (126 < (c.toNat : Int)) = false := by simp; omega
        have hx : s.extract j (j + 1) = sA [c] := HX.out
        obtain ⟨t1, ht1⟩ : ∃ y, sA [c] = y := ⟨_, rfl⟩
        have ht1z : t1.size = 1 := by rw [← ht1]; rfl
        rw [ht1] at hx
        have q1 : (9223372036854775807 < ac.size + 1) = False := by simp; omega
        obtain ⟨ac2, hac2⟩ : ∃ y, ac ++ t1 = y := ⟨_, rfl⟩
        have HA2 := Lib.hid (show sA (acc ++ [c]) = ac2 by rw [← hac2, ← ht1, ← HA.out, sA_sum])
        have HAE := Lib.hid hac2
        clear ht1 hac2 hpn
        by_cases h34 : c = 34
        · subst h34
          have g1 : ((((34 : UInt8).toNat : Nat) : Int) == 34) = true := rfl
          rcases r with _ | ⟨d, r⟩
          · have g2 : decide ((s.size : Int) ≤ (j : Int) + 1) = true := by have := congrArg List.length hr; have := HSZ.out; simp at *; omega
            have HQ2 := Lib.hid (show quoR Q = (acc, (j : Int) + 1, -1) by rw [← hq, hr]; rfl)
            clear hq
            go_wp2_with (fail)
            go_ret3
            rw [HQ2.out]
            dsimp only
            rw [HA.out]
            exact ⟨rfl, rfl⟩
          · obtain ⟨hj2, hd, hr2⟩ := drop_cons hr1
            obtain ⟨hz2, hsj2⟩ := sA_at HS.out hd
            have HX2 := Lib.hid (sA_one1 HS.out hd)
            have g2 : decide ((s.size : Int) ≤ (j : Int) + 1) = false := by have := HSZ.out; simp; omega
            by_cases hd34 : d = 34
            · subst hd34
              have g3 : ((((34 : UInt8).toNat : Nat) : Int) != 34) = false := rfl
              have hx2 : s.extract (j + 1) (j + 1 + 1) = t1 := by rw [HX2.out, ← HX.out]; exact hx
              have hj3 : j + 1 + 1 ≤ s.size := by have := HSZ.out; omega
              have HQ2 := Lib.hid (show quoL (j + 2) (acc ++ [34]) (l.drop (j + 2)) = Q by rw [← hq, hr, hr2]; rfl)
              clear hq
              go_wp2_with (fail)
              exact ⟨⟨j + 2, acc ++ [34], by omega, by have := HAC.out; simp; omega, by simp; omega, by rw [HA2.out, ← HAE.out], HQ2.out, rfl⟩, by show l.length - (j + 2) < l.length - j; omega⟩
            · have g3 : ((d.toNat : Int) != 34) = true := by simp; intro h; exact hd34 (UInt8.toNat.inj (by simpa using (by omega : d.toNat = 34)))
              have HQ2 := Lib.hid (show quoR Q = (acc, (j : Int) + 1, -1) by rw [← hq, hr, quoL, if_pos rfl, if_neg hd34]; rfl)
              clear hq
              go_wp2_with (fail)
              go_ret3
              rw [HQ2.out]
              dsimp only
              rw [HA.out]
              exact ⟨rfl, rfl⟩
        · have g1 : ((c.toNat : Int) == 34) = false := by simp; intro h; exact h34 (UInt8.toNat.inj (by simpa using (by omega : c.toNat = 34)))
          have HQ2 := Lib.hid (show quoL (j + 1) (acc ++ [c]) (l.drop (j + 1)) = Q by rw [← hq, hr, hr1]; cases r with | nil => simp [quoL, h34, hp] | cons d r => simp [quoL, h34, hp])
          clear hq hp
          go_wp2_with (fail)
          exact ⟨⟨j + 1, acc ++ [c], by omega, by have := HAC.out; simp; omega, by simp, by rw [HA2.out, ← HAE.out], HQ2.out, rfl⟩, by show l.length - (j + 1) < l.length - j; omega⟩
      · have hp : printC c = false := by simpa using hp
        have hpn : ¬ (32 ≤ c.toNat ∧ c.toNat ≤ 126) := by
          intro h
          have := hp
          rw [printC_n] at this
          simp at this
          omega
        have HQ2 := Lib.hid (show quoR Q = ([], 0, (j : Int)) by
          by_cases h34 : c = 34
          · subst h34; exact absurd hp (by decide)
          · rw [← hq, hr]; cases r with | nil => simp [quoL, h34, hp, quoR] | cons d r => simp [quoL, h34, hp, quoR])
        clear hq hp
        by_cases h32 : c.toNat < 32
        · have gp1 : decide ((c.toNat : Int) < 32) = true := by simp; omega
          clear hpn
          go_wp2_with (fail)
          go_ret3
          rw [HQ2.out]
          exact ⟨rfl, rfl⟩
        · have gp1 : decide ((c.toNat : Int) < 32) = false := by simp; omega
          have gp2 : decide (126 < (c.toNat : Int)) = true := by simp; omega
          clear hpn
          go_wp2_with (fail)
          go_ret3
          rw [HQ2.out]
          exact ⟨rfl, rfl⟩
end

section
/-! Chapter 3: the reference's fields of a line. -/
open Go.RowKit
set_option maxRecDepth 100000
set_option maxHeartbeats 8000000
theorem fld_aft (n i : Nat) (acc : List Fld) (r : List UInt8) (h : r = [] ∨ ∃ c t, r = c :: t ∧ (whiteC c = true ∨ c = 59)) : fldF n i true acc r = fldF n i false acc r := by
  cases n with
  | zero => rfl
  | succ n =>
    rcases h with rfl | ⟨c, t, rfl, hc | rfl⟩
    · rfl
    · simp [fldF, hc]
    · simp [fldF]
theorem fld_bad (n i : Nat) (acc : List Fld) (c : UInt8) (t : List UInt8) (h1 : whiteC c = false) (h2 : c ≠ 59) : fldF (n + 1) i true acc (c :: t) = ([], (i : Int) + 1) := by simp [fldF, h1, h2]
theorem fld_bad2 (n i : Nat) (acc : List Fld) (c : UInt8) (t : List UInt8) (h1 : whiteC c = false) (h2 : c ≠ 59) (h3 : c ≠ 34) (h4 : wordC c = false) : fldF (n + 1) i false acc (c :: t) = ([], (i : Int) + 1) := by
  simp [fldF, h1, h2, h3, h4, List.takeWhile_cons]
def FrR (l : List UInt8) (F : List Fld × Int) (w : World) (v iv : Value) (wr : World) : Prop := ∃ (i n : Nat) (acc : List Fld) (A : Option Addr) (cp : Nat), i ≤ l.length ∧ acc.length ≤ i ∧ l.length - i < n ∧ iv = .int .i64 i ∧ v = .slice A acc.length cp ∧ OwnL flE 3 101 w.heap.size wr (.slice A acc.length cp) acc ∧ fldF n i false acc (l.drop i) = F ∧ Below w.heap.size w wr
theorem fields_r (l : List UInt8) (hl : l.length ≤ 1000000) (w : World) : Calls Tryz.prog 76 #[.string (sA l)] w fun e w' => ∃ v, e = .returned (.tuple #[v, .int .i64 ((fieldsP l).2 - 1)]) ∧ OwnL flE 3 101 w.heap.size w' v (fieldsP l).1 ∧ Below w.heap.size w w' := by
  obtain ⟨F, hF⟩ : ∃ F, fieldsP l = F := ⟨_, rfl⟩
  rw [hF]
  obtain ⟨s, hs⟩ : ∃ s, sA l = s := ⟨_, rfl⟩
  have hsz : s.size = l.length := by rw [← hs, sA_sz]
  rw [hs]
  have HS := Lib.hid hs
  have HF := Lib.hid hF
  have HSZ := Lib.hid hsz
  have hs6 : s.size ≤ 1000000 := by omega
  clear hs hF hsz
  go_enter Tryz.func76, Tryz.ntmps76
  go_wp2_with (fail)
  go_loopw [4, 5] (FrR l F w) (fun _ i _ => l.length - (intOf i).toNat)
  case atStart => exact ⟨0, l.length + 1, [], none, 0, by omega, by simp, by omega, rfl, rfl, World.ownsRow_nil _ _ _ _, HF.out, Below.refl _ _⟩
  case round =>
    obtain ⟨i, n, acc, A, cp, hi, hac, hn, rfl, rfl, hown, hq, hb⟩ := hrel
    have HO := Lib.hid hown
    have HB := Lib.hid hb
    clear hown hb
    rcases hr : l.drop i with _ | ⟨c, r⟩
    · have hjl : i = l.length := by have := congrArg List.length hr; simp at this; omega
      have HQ2 := Lib.hid (show F = (acc, 0) by rw [← hq, hr]; cases n with | zero => omega | succ n => rfl)
      clear hq hr
      have hlt : decide ((i : Int) < s.size) = false := by have := HSZ.out; simp; omega
      have hnl : ¬ i < s.size := by have := HSZ.out; omega
      clear hjl
      go_wp2_with (fail)
      go_ret2
      rw [HQ2.out]
      exact ⟨_, rfl, HO.out, HB.out⟩
    · obtain ⟨hj1, hc, hr1⟩ := drop_cons hr
      obtain ⟨hz, hsj⟩ := sA_at HS.out hc
      have h256 : c.toNat < 256 := c.toNat_lt
      have hlt : decide ((i : Int) < s.size) = true := by have := HSZ.out; simp; omega
      obtain ⟨n, rfl⟩ : ∃ m, n = m + 1 := ⟨n - 1, by omega⟩
      rw [hr] at hq
      by_cases h59 : c = 59
      · have HQ2 := Lib.hid (show F = (acc, 0) by rw [← hq, h59]; rfl)
        have g1 : ((c.toNat : Int) != 59) = false := by rw [h59]; rfl
        clear hq hr
        go_wp2_with (fail)
        go_ret2
        rw [HQ2.out]
        exact ⟨_, rfl, HO.out, HB.out⟩
      have g1 : ((c.toNat : Int) != 59) = true := by simp; intro h; exact h59 (UInt8.toNat.inj (by simpa using (by omega : c.toNat = 59)))
      go_wp2_with (fail)
      refine (white_r c wr).mono ?_
      rintro e w1 ⟨rfl, rfl⟩
      by_cases hw : whiteC c = true
      · rw [hw]
        have HQ2 := Lib.hid (show fldF n (i + 1) false acc (l.drop (i + 1)) = F by rw [← hq, hr1]; simp [fldF, hw])
        clear hq hw hr
        go_wp2_with (fail)
        exact ⟨⟨i + 1, n, acc, A, cp, by omega, by omega, by omega, rfl, rfl, HO.out, HQ2.out, HB.out⟩, by show l.length - (i + 1) < l.length - i; omega⟩
      · have hw : whiteC c = false := by simpa using hw
        rw [hw]
        by_cases h34 : c = 34
        · obtain ⟨q, hqq⟩ : ∃ q, quoL (i + 1) [] (l.drop (i + 1)) = q := ⟨_, rfl⟩
          have NQ := Lib.hid hqq
          have g3 : ((c.toNat : Int) == 34) = true := by rw [h34]; rfl
          have hq1 : i + 1 ≤ q.2.1 ∧ q.2.1 ≤ l.length := by have := quoL_le (i + 1) [] (l.drop (i + 1)); rw [hqq] at this; simp at this; omega
          have hq3 : q.2.2 = true → i + 1 < q.2.1 := fun h => by have := quoL_gt (j := i + 1) (acc := []) (r := l.drop (i + 1)); rw [hqq] at this; exact this h
          clear hqq
          have hql := quoted_r l hl i hj1 wr
          rw [NQ.out] at hql
          obtain ⟨qt, qn, qb⟩ := q
          dsimp only at hql hq1 hq3
          have HQC := Lib.hid hql
          have HQ2 := Lib.hid (show F = if qb = true then fldF n qn true (acc ++ [⟨qt, (i : Int) + 1, true⟩]) (l.drop qn) else ([], (qn : Int) + 1) by rw [← hq]; have h1 := NQ.out; rw [hr1] at h1; simp only [fldF, hw, Bool.false_eq_true, if_false]; rw [if_neg h59, if_pos h34, h1]; dsimp only; rw [← hr, List.drop_drop, show i + (qn - i) = qn by omega])
          clear hq hw hr hql
          obtain ⟨qS, hqS⟩ : ∃ y, sA qt = y := ⟨_, rfl⟩
          have NqS := Lib.hid hqS
          clear hqS
          go_wp2_with (fail)
          rw [HS.out] at HQC
          refine HQC.out.mono ?_
          rintro e w2 ⟨rfl, rfl⟩
          cases qb
          · have HQ3 := Lib.hid (show F = ([], (qn : Int) + 1) by rw [HQ2.out]; rfl)
            clear HQ2
            rw [show quoR (qt, qn, false) = ([], 0, (qn : Int)) from rfl]
            dsimp only
            generalize sA [] = s9
            have gb : decide (0 ≤ (qn : Int)) = true := by simp
            go_wp2_with (fail)
            go_ret2
            rw [HQ3.out]
            exact ⟨_, by simp, World.ownsRow_nil _ _ _ _, HB.out⟩
          · rw [show quoR (qt, qn, true) = (qt, (qn : Int), -1) from rfl]
            dsimp only
            rw [NqS.out]
            have HQ3 := Lib.hid (show fldF n qn true (acc ++ [⟨qt, (i : Int) + 1, true⟩]) (l.drop qn) = F by rw [HQ2.out]; rfl)
            clear HQ2
            have hq4 := hq3 rfl
            clear hq3
            rcases hr3 : l.drop qn with _ | ⟨d, r3⟩
            · have hqe : qn = l.length := by have := congrArg List.length hr3; simp at this; omega
              have hl2 : decide ((qn : Int) < s.size) = false := by have := HSZ.out; simp; omega
              have hn2 : ¬ qn < s.size := by have := HSZ.out; omega
              have HQ4 := Lib.hid (show fldF n qn false (acc ++ [⟨qt, (i : Int) + 1, true⟩]) (l.drop qn) = F by rw [← HQ3.out, fld_aft _ _ _ _ (.inl hr3)])
              clear hr3 hqe
              go_wp2_with (at_builtin; refine wpList_app1 Tryz.flElem _ rfl (.tmp 59) (.tmp 64) rfl w.heap.size A cp acc rfl ?o1 (⟨qt, (i : Int) + 1, true⟩ : Fld) wr.heap.size 1 rfl ?o2 ?o3 ?o4 ?o5 ?_)
              case o1 => exact World.ownsRow.alloc HO.out _
              case o2 => first | (rw [show flE (⟨qt, (i : Int) + 1, true⟩ : Fld) = [.string qS, .int .i64 ((i : Int) + 1), .bool true] from by unfold flE; rw [NqS.out]]; exact heap_alloc_new _ _) | exact heap_alloc_new _ _ | exact (Array.getElem?_eq_some_iff.1 (heap_alloc_new _ _)).2
              case o3 => unfold maxLen; omega
              case o4 => omega
              case o5 => first | (have := (HB.out).size; omega) | (have := (HB.out).size; simp; omega)
              intro g cap w6 ha
              obtain ⟨hb6, ho6⟩ := app1_end (HB.out) (own_base HO.out) (cur_new _ _) ha
              rw [List.length_append] at ho6
              have HB6 := Lib.hid hb6
              have HO6 := Lib.hid ho6
              clear ha hb6 ho6
              go_wp2_with (fail)
              exact ⟨⟨qn, n, acc ++ [⟨qt, (i : Int) + 1, true⟩], some ⟨g, 0, none⟩, cap, by omega, by simp; omega, by omega, rfl, by simp, by have := HO6.out; simpa using this, HQ4.out, HB6.out⟩, by show l.length - qn < l.length - i; omega⟩
            · obtain ⟨hk1, hkc, _⟩ := drop_cons hr3
              obtain ⟨hz3, hsj3⟩ := sA_at HS.out hkc
              have h256d : d.toNat < 256 := d.toNat_lt
              have hl2 : decide ((qn : Int) < s.size) = true := by have := HSZ.out; simp; omega
              go_wp2_with (fail)
              refine (white_r d wr).mono ?_
              rintro e w3 ⟨rfl, rfl⟩
              by_cases hwd : whiteC d = true
              · rw [hwd]
                have HQ4 := Lib.hid (show fldF n qn false (acc ++ [⟨qt, (i : Int) + 1, true⟩]) (l.drop qn) = F by rw [← HQ3.out, fld_aft _ _ _ _ (.inr ⟨d, r3, hr3, .inl hwd⟩)])
                clear hr3 hwd
                go_wp2_with (at_builtin; refine wpList_app1 Tryz.flElem _ rfl (.tmp 59) (.tmp 64) rfl w.heap.size A cp acc rfl ?o1 (⟨qt, (i : Int) + 1, true⟩ : Fld) wr.heap.size 1 rfl ?o2 ?o3 ?o4 ?o5 ?_)
                case o1 => exact World.ownsRow.alloc HO.out _
                case o2 => first | (rw [show flE (⟨qt, (i : Int) + 1, true⟩ : Fld) = [.string qS, .int .i64 ((i : Int) + 1), .bool true] from by unfold flE; rw [NqS.out]]; exact heap_alloc_new _ _) | exact heap_alloc_new _ _ | exact (Array.getElem?_eq_some_iff.1 (heap_alloc_new _ _)).2
                case o3 => unfold maxLen; omega
                case o4 => omega
                case o5 => first | (have := (HB.out).size; omega) | (have := (HB.out).size; simp; omega)
                intro g cap w6 ha
                obtain ⟨hb6, ho6⟩ := app1_end (HB.out) (own_base HO.out) (cur_new _ _) ha
                rw [List.length_append] at ho6
                have HB6 := Lib.hid hb6
                have HO6 := Lib.hid ho6
                clear ha hb6 ho6
                go_wp2_with (fail)
                exact ⟨⟨qn, n, acc ++ [⟨qt, (i : Int) + 1, true⟩], some ⟨g, 0, none⟩, cap, by omega, by simp; omega, by omega, rfl, by simp, by have := HO6.out; simpa using this, HQ4.out, HB6.out⟩, by show l.length - qn < l.length - i; omega⟩
              · have hwd : whiteC d = false := by simpa using hwd
                rw [hwd]
                by_cases hd59 : d = 59
                · have gd : ((d.toNat : Int) != 59) = false := by rw [hd59]; rfl
                  have HQ4 := Lib.hid (show fldF n qn false (acc ++ [⟨qt, (i : Int) + 1, true⟩]) (l.drop qn) = F by rw [← HQ3.out, fld_aft _ _ _ _ (.inr ⟨d, r3, hr3, .inr hd59⟩)])
                  clear hr3 hwd hd59
                  go_wp2_with (at_builtin; refine wpList_app1 Tryz.flElem _ rfl (.tmp 59) (.tmp 64) rfl w.heap.size A cp acc rfl ?o1 (⟨qt, (i : Int) + 1, true⟩ : Fld) wr.heap.size 1 rfl ?o2 ?o3 ?o4 ?o5 ?_)
                  case o1 => exact World.ownsRow.alloc HO.out _
                  case o2 => first | (rw [show flE (⟨qt, (i : Int) + 1, true⟩ : Fld) = [.string qS, .int .i64 ((i : Int) + 1), .bool true] from by unfold flE; rw [NqS.out]]; exact heap_alloc_new _ _) | exact heap_alloc_new _ _ | exact (Array.getElem?_eq_some_iff.1 (heap_alloc_new _ _)).2
                  case o3 => unfold maxLen; omega
                  case o4 => omega
                  case o5 => first | (have := (HB.out).size; omega) | (have := (HB.out).size; simp; omega)
                  intro g cap w6 ha
                  obtain ⟨hb6, ho6⟩ := app1_end (HB.out) (own_base HO.out) (cur_new _ _) ha
                  rw [List.length_append] at ho6
                  have HB6 := Lib.hid hb6
                  have HO6 := Lib.hid ho6
                  clear ha hb6 ho6
                  go_wp2_with (fail)
                  exact ⟨⟨qn, n, acc ++ [⟨qt, (i : Int) + 1, true⟩], some ⟨g, 0, none⟩, cap, by omega, by simp; omega, by omega, rfl, by simp, by have := HO6.out; simpa using this, HQ4.out, HB6.out⟩, by show l.length - qn < l.length - i; omega⟩
                · have gd : ((d.toNat : Int) != 59) = true := by simp; intro h; exact hd59 (UInt8.toNat.inj (by simpa using (by omega : d.toNat = 59)))
                  have HQ4 := Lib.hid (show F = ([], (qn : Int) + 1) by
                    rw [← HQ3.out, hr3]
                    obtain ⟨m, rfl⟩ : ∃ m, n = m + 1 := ⟨n - 1, by omega⟩
                    exact fld_bad _ _ _ _ _ hwd hd59)
                  clear hr3 hwd hd59
                  go_wp2_with (fail)
                  go_ret2
                  rw [HQ4.out]
                  exact ⟨_, by simp, World.ownsRow_nil _ _ _ _, HB.out⟩
        · obtain ⟨K, hK⟩ : ∃ K, twL (c :: r) = K := ⟨_, rfl⟩
          have hKl : i + K ≤ l.length := by have := twL_le (c :: r); rw [hK, ← hr] at this; simp at this; omega
          have HQ2 := Lib.hid (show F = if K = 0 ∨ (l.drop (i + K)).head? = some 34 then ([], ((i + K : Nat) : Int) + 1) else fldF n (i + K) false (acc ++ [⟨(l.drop i).take K, (i : Int) + 1, false⟩]) (l.drop (i + K)) by rw [← hq]; have h1 : ((c :: r).takeWhile wordC).length = K := hK; simp only [fldF, hw, Bool.false_eq_true, if_false]; rw [if_neg h59, if_neg h34, h1, ← hr, List.drop_drop])
          have HK := Lib.hid (show twL (l.drop i) = K by rw [hr]; exact hK)
          have HWC := Lib.hid hw
          have HC59 := Lib.hid h59
          have g3 : ((c.toNat : Int) == 34) = false := by simp; intro h; exact h34 (UInt8.toNat.inj (by simpa using (by omega : c.toNat = 34)))
          clear hq hw hr hK hr1
          go_wp2_with (fail)
          go_loopw [5] (WlR l i K wr) (fun j _ => l.length - (intOf j).toNat)
          case atStart => exact ⟨i, rfl, Nat.le_refl _, by omega, rfl, by rw [HK.out]; omega⟩
          case round =>
            obtain ⟨j, rfl, hij, hjl, rfl, hjK⟩ := hrel
            rcases hr : l.drop j with _ | ⟨d, r2⟩
            · have hjl2 : j = l.length := by have := congrArg List.length hr; simp at this; omega
              have hlt2 : decide ((j : Int) < s.size) = false := by have := HSZ.out; simp; omega
              have hnl2 : ¬ j < s.size := by have := HSZ.out; omega
              have hjK2 : j = i + K := by rw [hr, twL_nil] at hjK; omega
              have hh : (l.drop (i + K)).head? = none := by rw [← hjK2, hr]; rfl
              clear hjK hr
              have HKF := Lib.hid (show fldF n j false (acc ++ [⟨(l.drop i).take K, (i : Int) + 1, false⟩]) (l.drop j) = F by rw [HQ2.out, if_neg (by rw [hh]; simp; omega), hjK2])
              have HJK := Lib.hid (show j = i + K ∧ 0 < K by omega)
              clear hh HQ2 hjl2 hjK2
              obtain ⟨tS, htS⟩ : ∃ y, sA ((l.drop i).take K) = y := ⟨_, rfl⟩
              have hte : s.extract i j = tS := by rw [← HS.out, ← htS, sA_slice, show j - i = K by (have := HJK.out; omega)]
              have NtS := Lib.hid htS
              have hij3 : i ≤ j := by have := HJK.out; omega
              have hjs3 : j ≤ s.size := by have := HSZ.out; omega
              clear htS
              go_wp2_with (at_builtin; refine wpList_app1 Tryz.flElem _ rfl (.tmp 97) (.tmp 105) rfl w.heap.size A cp acc rfl ?o1 (⟨(l.drop i).take K, (i : Int) + 1, false⟩ : Fld) wr.heap.size 1 rfl ?o2 ?o3 ?o4 ?o5 ?_)
              case o1 => exact World.ownsRow.alloc HO.out _
              case o2 => first | (rw [show flE (⟨(l.drop i).take K, (i : Int) + 1, false⟩ : Fld) = [.string tS, .int .i64 ((i : Int) + 1), .bool false] from by unfold flE; rw [NtS.out]]; exact heap_alloc_new _ _) | exact heap_alloc_new _ _ | exact (Array.getElem?_eq_some_iff.1 (heap_alloc_new _ _)).2
              case o3 => unfold maxLen; omega
              case o4 => omega
              case o5 => first | (have := (HB.out).size; omega) | (have := (HB.out).size; simp; omega)
              intro g cap w6 ha
              obtain ⟨hb6, ho6⟩ := app1_end (HB.out) (own_base HO.out) (cur_new _ _) ha
              rw [List.length_append] at ho6
              have HB6 := Lib.hid hb6
              have HO6 := Lib.hid ho6
              clear ha hb6 ho6
              go_wp2_with (fail)
              exact ⟨⟨j, n, acc ++ [⟨(l.drop i).take K, (i : Int) + 1, false⟩], some ⟨g, 0, none⟩, cap, by omega, by (have := HJK.out; simp; omega), by (have := HJK.out; omega), rfl, by simp, by have := HO6.out; simpa using this, HKF.out, HB6.out⟩, by show l.length - j < l.length - i; have := HJK.out; omega⟩
            · obtain ⟨hj2, hd, hr2⟩ := drop_cons hr
              obtain ⟨hz2, hsj2⟩ := sA_at HS.out hd
              have h256d : d.toNat < 256 := d.toNat_lt
              have hlt2 : decide ((j : Int) < s.size) = true := by have := HSZ.out; simp; omega
              have HH := Lib.hid hr
              have HD := Lib.hid hd
              go_wp2_with (fail)
              refine (wordb_r d _).mono ?_
              rintro e w3 ⟨rfl, rfl⟩
              by_cases hwd : wordC d = true
              · rw [hwd]
                have hjK3 : (j + 1 - i) + twL (l.drop (j + 1)) = K := by rw [hr2]; rw [hr, twL_on hwd] at hjK; omega
                clear hjK hr hwd hd
                go_wp2_with (fail)
                exact ⟨⟨j + 1, rfl, by omega, by omega, rfl, hjK3⟩, by show l.length - (j + 1) < l.length - j; omega⟩
              · have hwd : wordC d = false := by simpa using hwd
                rw [hwd]
                have hjK2 : j = i + K := by rw [hr, twL_off hwd] at hjK; omega
                have HWD := Lib.hid hwd
                have HK0 := Lib.hid (show K = 0 → d = c by
                  intro h
                  have e : j = i := by omega
                  rw [e, hc] at hd
                  exact (Option.some.inj hd).symm)
                have HJ2 := Lib.hid hjK2
                clear hjK hr hwd hd hjK2
                go_wp2_with (fail)
                refine (white_r d _).mono ?_
                rintro e w3 ⟨rfl, rfl⟩
                by_cases hws : whiteC d = true
                · rw [hws]
                  have hK0 : K ≠ 0 := fun h => by have := HK0.out h; rw [this, HWC.out] at hws; cases hws
                  have h34d : d ≠ 34 := fun h => by rw [h] at hws; revert hws; decide
                  have HKF := Lib.hid (show fldF n j false (acc ++ [⟨(l.drop i).take K, (i : Int) + 1, false⟩]) (l.drop j) = F by rw [HQ2.out, ← HJ2.out, if_neg (by rw [HH.out]; simp [hK0, h34d])])
                  have HJK := Lib.hid (show j = i + K ∧ 0 < K by have := HJ2.out; omega)
                  clear HQ2 hws hK0 h34d
                  obtain ⟨tS, htS⟩ : ∃ y, sA ((l.drop i).take K) = y := ⟨_, rfl⟩
                  have hte : s.extract i j = tS := by rw [← HS.out, ← htS, sA_slice, show j - i = K by (have := HJK.out; omega)]
                  have NtS := Lib.hid htS
                  have hij3 : i ≤ j := by have := HJK.out; omega
                  have hjs3 : j ≤ s.size := by have := HSZ.out; omega
                  clear htS
                  go_wp2_with (at_builtin; refine wpList_app1 Tryz.flElem _ rfl (.tmp 97) (.tmp 105) rfl w.heap.size A cp acc rfl ?o1 (⟨(l.drop i).take K, (i : Int) + 1, false⟩ : Fld) wr.heap.size 1 rfl ?o2 ?o3 ?o4 ?o5 ?_)
                  case o1 => exact World.ownsRow.alloc HO.out _
                  case o2 => first | (rw [show flE (⟨(l.drop i).take K, (i : Int) + 1, false⟩ : Fld) = [.string tS, .int .i64 ((i : Int) + 1), .bool false] from by unfold flE; rw [NtS.out]]; exact heap_alloc_new _ _) | exact heap_alloc_new _ _ | exact (Array.getElem?_eq_some_iff.1 (heap_alloc_new _ _)).2
                  case o3 => unfold maxLen; omega
                  case o4 => omega
                  case o5 => first | (have := (HB.out).size; omega) | (have := (HB.out).size; simp; omega)
                  intro g cap w6 ha
                  obtain ⟨hb6, ho6⟩ := app1_end (HB.out) (own_base HO.out) (cur_new _ _) ha
                  rw [List.length_append] at ho6
                  have HB6 := Lib.hid hb6
                  have HO6 := Lib.hid ho6
                  clear ha hb6 ho6
                  go_wp2_with (fail)
                  exact ⟨⟨j, n, acc ++ [⟨(l.drop i).take K, (i : Int) + 1, false⟩], some ⟨g, 0, none⟩, cap, by omega, by (have := HJK.out; simp; omega), by (have := HJK.out; omega), rfl, by simp, by have := HO6.out; simpa using this, HKF.out, HB6.out⟩, by show l.length - j < l.length - i; have := HJK.out; omega⟩
                · have hws : whiteC d = false := by simpa using hws
                  rw [hws]
                  by_cases hd59 : d = 59
                  · have gd : ((d.toNat : Int) != 59) = false := by rw [hd59]; rfl
                    have hK0 : K ≠ 0 := fun h => by have := HK0.out h; rw [this] at hd59; exact HC59.out hd59
                    have h34d : d ≠ 34 := fun h => by rw [h] at hd59; revert hd59; decide
                    have HKF := Lib.hid (show fldF n j false (acc ++ [⟨(l.drop i).take K, (i : Int) + 1, false⟩]) (l.drop j) = F by rw [HQ2.out, ← HJ2.out, if_neg (by rw [HH.out]; simp [hK0, h34d])])
                    have HJK := Lib.hid (show j = i + K ∧ 0 < K by have := HJ2.out; omega)
                    clear HQ2 hws hK0 h34d hd59
                    obtain ⟨tS, htS⟩ : ∃ y, sA ((l.drop i).take K) = y := ⟨_, rfl⟩
                    have hte : s.extract i j = tS := by rw [← HS.out, ← htS, sA_slice, show j - i = K by (have := HJK.out; omega)]
                    have NtS := Lib.hid htS
                    have hij3 : i ≤ j := by have := HJK.out; omega
                    have hjs3 : j ≤ s.size := by have := HSZ.out; omega
                    clear htS
                    go_wp2_with (at_builtin; refine wpList_app1 Tryz.flElem _ rfl (.tmp 97) (.tmp 105) rfl w.heap.size A cp acc rfl ?o1 (⟨(l.drop i).take K, (i : Int) + 1, false⟩ : Fld) wr.heap.size 1 rfl ?o2 ?o3 ?o4 ?o5 ?_)
                    case o1 => exact World.ownsRow.alloc HO.out _
                    case o2 => first | (rw [show flE (⟨(l.drop i).take K, (i : Int) + 1, false⟩ : Fld) = [.string tS, .int .i64 ((i : Int) + 1), .bool false] from by unfold flE; rw [NtS.out]]; exact heap_alloc_new _ _) | exact heap_alloc_new _ _ | exact (Array.getElem?_eq_some_iff.1 (heap_alloc_new _ _)).2
                    case o3 => unfold maxLen; omega
                    case o4 => omega
                    case o5 => first | (have := (HB.out).size; omega) | (have := (HB.out).size; simp; omega)
                    intro g cap w6 ha
                    obtain ⟨hb6, ho6⟩ := app1_end (HB.out) (own_base HO.out) (cur_new _ _) ha
                    rw [List.length_append] at ho6
                    have HB6 := Lib.hid hb6
                    have HO6 := Lib.hid ho6
                    clear ha hb6 ho6
                    go_wp2_with (fail)
                    exact ⟨⟨j, n, acc ++ [⟨(l.drop i).take K, (i : Int) + 1, false⟩], some ⟨g, 0, none⟩, cap, by omega, by (have := HJK.out; simp; omega), by (have := HJK.out; omega), rfl, by simp, by have := HO6.out; simpa using this, HKF.out, HB6.out⟩, by show l.length - j < l.length - i; have := HJK.out; omega⟩
                  · have gd : ((d.toNat : Int) != 59) = true := by simp; intro h; exact hd59 (UInt8.toNat.inj (by simpa using (by omega : d.toNat = 59)))
                    have HQ3 := Lib.hid (show F = ([], (j : Int) + 1) by
                      rw [HQ2.out, ← HJ2.out]
                      by_cases hx : K = 0 ∨ (l.drop j).head? = some 34
                      · rw [if_pos hx]
                      · rw [if_neg hx, HH.out]
                        have hn34 : d ≠ 34 := fun h => hx (.inr (by rw [HH.out, h]; rfl))
                        have hk0 : K ≠ 0 := fun h => hx (.inl h)
                        obtain ⟨m, rfl⟩ : ∃ m, n = m + 1 := ⟨n - 1, by have := HJ2.out; omega⟩
                        exact fld_bad2 _ _ _ _ _ hws hd59 hn34 HWD.out)
                    clear HQ2 hws hd59
                    go_wp2_with (fail)
                    go_ret2
                    rw [HQ3.out]
                    exact ⟨_, by simp, World.ownsRow_nil _ _ _ _, HB.out⟩
end

section
/-! Chapter 3: the lines of a source, read by the reference. -/
open Go.RowKit
set_option maxRecDepth 100000
set_option maxHeartbeats 8000000
/-- Without a bound on the diagnostics. -/
def stepU (a : List Lin × List Dg) (i : Nat) (s : List UInt8) : List Lin × List Dg :=
  if 0 < (linP s).2.1 then (a.1, a.2 ++ [⟨(i : Int) + 1, (linP s).2.1, (linP s).2.2⟩])
  else if (linP s).2.1 = 0 ∧ 0 < (linP s).1.length then (a.1 ++ [⟨(i : Int) + 1, (linP s).1⟩], a.2) else a
def splU : Nat → List Lin × List Dg → List (List UInt8) → List Lin × List Dg
  | _, a, [] => a
  | i, a, s :: r => splU (i + 1) (stepU a i s) r
theorem splU_snoc : ∀ (l : List (List UInt8)) (i : Nat) (a : List Lin × List Dg) (s : List UInt8), splU i a (l ++ [s]) = stepU (splU i a l) (i + l.length) s
  | [], i, a, s => rfl
  | x :: l, i, a, s => by
    show splU (i + 1) (stepU a i x) (l ++ [s]) = _
    rw [splU_snoc l]
    show stepU (splU (i + 1) (stepU a i x) l) _ s = stepU (splU (i + 1) (stepU a i x) l) _ s
    rw [List.length_cons]
    congr 1
    omega
theorem step_take (a : List Lin) (d : List Dg) (i : Nat) (s : List UInt8) : splStep (a, d.take 50) i s = ((stepU (a, d) i s).1, (stepU (a, d) i s).2.take 50) := by
  unfold splStep stepU
  dsimp only
  by_cases h0 : 0 < (linP s).2.1
  · rw [if_pos h0]
    by_cases h5 : (d.take 50).length < 50
    · rw [if_pos ⟨h0, h5⟩]
      rw [List.length_take] at h5
      have hd : d.length < 50 := by omega
      rw [List.take_of_length_le (by omega), List.take_of_length_le (by simp; omega)]
    · rw [if_neg (fun q => h5 q.2), if_neg (by omega)]
      rw [List.length_take] at h5
      have hd : 50 ≤ d.length := by omega
      rw [List.take_append_of_le_length hd]
  · rw [if_neg h0, if_neg (fun q => h0 q.1)]
    split <;> rfl
theorem fldF_nn : ∀ (n i : Nat) (aft : Bool) (acc : List Fld) (r : List UInt8), 0 ≤ (fldF n i aft acc r).2
  | 0, _, _, _, _ => by simp [fldF]
  | n + 1, i, aft, acc, [] => by simp [fldF]
  | n + 1, i, aft, acc, c :: r => by
    unfold fldF
    split
    · exact fldF_nn n _ _ _ _
    split
    · exact Int.le_refl 0
    split
    · show 0 ≤ (i : Int) + 1; omega
    split
    · dsimp only
      split
      · exact fldF_nn n _ _ _ _
      · show 0 ≤ ((quoL (i + 1) [] r).2.1 : Int) + 1; omega
    · dsimp only
      split
      · show 0 ≤ ((i + ((c :: r).takeWhile wordC).length : Nat) : Int) + 1; omega
      · exact fldF_nn n _ _ _ _
theorem fldF_le : ∀ (n i : Nat) (aft : Bool) (acc : List Fld) (r : List UInt8), (fldF n i aft acc r).2 ≤ (i : Int) + r.length + 1
  | 0, i, _, _, r => by show (0 : Int) ≤ _; omega
  | n + 1, i, aft, acc, [] => by show (0 : Int) ≤ _; omega
  | n + 1, i, aft, acc, c :: r => by
    unfold fldF
    rw [List.length_cons]
    split
    · have := fldF_le n (i + 1) false acc r; omega
    split
    · show (0 : Int) ≤ _; omega
    split
    · show (i : Int) + 1 ≤ _; omega
    split
    · dsimp only
      have hq := quoL_le (i + 1) [] r
      split
      · have := fldF_le n (quoL (i + 1) [] r).2.1 true (acc ++ [⟨(quoL (i + 1) [] r).1, (i : Int) + 1, true⟩]) ((c :: r).drop ((quoL (i + 1) [] r).2.1 - i))
        rw [List.length_drop, List.length_cons] at this
        omega
      · show ((quoL (i + 1) [] r).2.1 : Int) + 1 ≤ _; omega
    · dsimp only
      have hk : ((c :: r).takeWhile wordC).length ≤ r.length + 1 := by have := twL_le (c :: r); unfold twL at this; simpa using this
      split
      · show ((i + ((c :: r).takeWhile wordC).length : Nat) : Int) + 1 ≤ _; omega
      · have := fldF_le n (i + ((c :: r).takeWhile wordC).length) false (acc ++ [⟨(c :: r).take ((c :: r).takeWhile wordC).length, (i : Int) + 1, false⟩]) ((c :: r).drop ((c :: r).takeWhile wordC).length)
        rw [List.length_drop, List.length_cons] at this
        omega
theorem splF_take : ∀ (L : List (List UInt8)) (i : Nat) (a : List Lin) (d : List Dg), splF i (a, d.take 50) L = ((splU i (a, d) L).1, (splU i (a, d) L).2.take 50)
  | [], _, _, _ => rfl
  | x :: r, i, a, d => by
    show splF (i + 1) (splStep (a, d.take 50) i x) r = _
    rw [step_take, splF_take r]
    rfl
/-- So far: the parts, where the next one begins, how far it has been looked at. -/
def FdN (l : List UInt8) (acc : List (List UInt8)) (f k : Nat) : Prop :=
  (k ≤ l.length ∧ f ≤ k ∧ (10 : UInt8) ∉ (l.drop f).take (k - f) ∧ splitC 10 l = acc ++ splitC 10 (l.drop f)) ∨ (k = l.length + 1 ∧ acc = splitC 10 l)
theorem FdN.start (l : List UInt8) : FdN l [] 0 0 := .inl ⟨by omega, by omega, by simp, by simp⟩
theorem FdN.step {l : List UInt8} {acc : List (List UInt8)} {f k : Nat} (h : FdN l acc f k) {c : UInt8} (hc : l[k]? = some c) (hn : c ≠ 10) : FdN l acc f (k + 1) := by
  have hk : k < l.length := (List.getElem?_eq_some_iff.1 hc).1
  rcases h with ⟨h1, h2, h3, h4⟩ | ⟨h1, _⟩
  · refine .inl ⟨by omega, by omega, ?_, h4⟩
    rw [show k + 1 - f = (k - f) + 1 by omega, List.take_add_one]
    intro hm
    rcases List.mem_append.1 hm with hm | hm
    · exact h3 hm
    · rw [List.getElem?_drop, show f + (k - f) = k by omega, hc] at hm
      simp at hm
      exact hn hm.symm
  · omega
theorem FdN.cut {l : List UInt8} {acc : List (List UInt8)} {f k : Nat} (h : FdN l acc f k) (hc : l[k]? = some 10) : FdN l (acc ++ [(l.drop f).take (k - f)]) (k + 1) (k + 1) := by
  have hk : k < l.length := (List.getElem?_eq_some_iff.1 hc).1
  rcases h with ⟨h1, h2, h3, h4⟩ | ⟨h1, _⟩
  · refine .inl ⟨by omega, by omega, by simp, ?_⟩
    have hd : l.drop f = (l.drop f).take (k - f) ++ 10 :: l.drop (k + 1) := by
      have e1 := (List.take_append_drop (k - f) (l.drop f)).symm
      rw [List.drop_drop, show f + (k - f) = k by omega, List.drop_eq_getElem_cons hk] at e1
      have e2 : l[k] = 10 := Option.some.inj ((List.getElem?_eq_getElem hk).symm.trans hc)
      rw [e2] at e1
      exact e1
    rw [h4, List.append_assoc]
    congr 1
    conv => lhs; rw [hd, splitC_app h3]
    rfl
  · omega
theorem FdN.last {l : List UInt8} {acc : List (List UInt8)} {f : Nat} (h : FdN l acc f l.length) : FdN l (acc ++ [(l.drop f).take (l.length - f)]) (l.length + 1) (l.length + 1) := by
  rcases h with ⟨h1, h2, h3, h4⟩ | ⟨h1, _⟩
  · refine .inr ⟨rfl, ?_⟩
    have e : (l.drop f).take (l.length - f) = l.drop f := by rw [List.take_of_length_le]; rw [List.length_drop]; omega
    rw [e] at h3 ⊢
    rw [h4, splitC_none h3]
  · omega
theorem FdN.end_ {l : List UInt8} {acc : List (List UInt8)} {f k : Nat} (h : FdN l acc f k) (hk : l.length < k) : acc = splitC 10 l := by
  rcases h with ⟨h1, _⟩ | ⟨_, h2⟩
  · omega
  · exact h2
theorem FdN.le {l : List UInt8} {acc : List (List UInt8)} {f k : Nat} (h : FdN l acc f k) : k ≤ l.length + 1 ∧ (k ≤ l.length → f ≤ k) := by
  rcases h with ⟨h1, h2, _⟩ | ⟨h1, _⟩ <;> omega
def SuR (l : List UInt8) (w : World) (ov dv nv fv iv : Value) (wr : World) : Prop := ∃ (k f : Nat) (acc : List (List UInt8)) (rs : List Lr) (A : Option Addr) (c : Nat) (dl : List Dg) (B : Option Addr) (cb : Nat), iv = .int .i64 k ∧ fv = .int .i64 f ∧ nv = .int .i64 ((acc.length : Int) + 1) ∧ ov = .slice A rs.length c ∧ dv = .slice B dl.length cb ∧ acc.length ≤ k ∧ rs.length ≤ k ∧ dl.length ≤ k ∧ FdN l acc f k ∧
  SpS w.heap.size wr A c rs B cb dl ∧ splU 0 ([], []) acc = (rs.map Lr.lin, dl) ∧ Below w.heap.size w wr
theorem split3_r (l : List UInt8) (hl : l.length ≤ 1000000) (w : World) : Calls Tryz.prog 51 #[.string (sA l)] w fun e w' => ∃ A c rs B cb dl, e = .returned (.tuple #[.slice A rs.length c, .slice B (splitP l).2.length cb]) ∧ SpS w.heap.size w' A c rs B cb dl ∧ dl.take 50 = (splitP l).2 ∧ rs.map Lr.lin = (splitP l).1 ∧ Below w.heap.size w w' := by
  obtain ⟨s, hs⟩ : ∃ s, sA l = s := ⟨_, rfl⟩
  have hsz : s.size = l.length := by rw [← hs, sA_sz]
  by_cases hbig : 262144 < l.length
  · have HF := Lib.hid (show splitP l = ([], [⟨1, 1, 9⟩]) by unfold splitP; rw [if_pos hbig])
    rw [hs]
    clear hs
    go_enter Tryz.func51, Tryz.ntmps51
    have g1 : decide (262144 < (s.size : Int)) = true := by simp; omega
    go_wp2_with (fail)
    go_ret2
    rw [HF.out]
    exact ⟨none, 0, [], some ⟨w.heap.size, 0, none⟩, 1, [⟨1, 1, 9⟩], rfl, ⟨TabL.nil _ _, World.ownsRow_lit w (dgE ⟨1, 1, 9⟩).toArray 1 (Nat.le_refl _) (by decide) rfl, (fun k h e => by cases e), by simp, fun e => by simp at e⟩, rfl, rfl, cur_new _ _⟩
  have HF := Lib.hid (show splitP l = ((splU 0 ([], []) (splitC 10 l)).1, (splU 0 ([], []) (splitC 10 l)).2.take 50) by rw [splitP_le (by omega)]; exact splF_take _ 0 [] [])
  have hl2 : l.length ≤ 262144 := by omega
  have HS := Lib.hid hs
  have HSZ := Lib.hid hsz
  have hs6 : s.size ≤ 262144 := by omega
  rw [hs]
  obtain ⟨P, hP⟩ : ∃ P, splitP l = P := ⟨_, rfl⟩
  rw [hP] at HF ⊢
  have g1 : decide (262144 < (s.size : Int)) = false := by simp; omega
  obtain ⟨M, hM⟩ : ∃ M : Nat, l.length + 1 = M := ⟨_, rfl⟩
  have HM := Lib.hid hM
  clear hM hs hsz hP hbig
  go_enter Tryz.func51, Tryz.ntmps51
  go_wp2_with (fail)
  go_loopw [4, 5, 6, 7, 8] (SuR l w) (fun _ _ _ _ i _ => M - (intOf i).toNat)
  case atStart => exact ⟨0, 0, [], [], none, 0, [], none, 0, rfl, rfl, rfl, rfl, rfl, by simp, by simp, by simp, FdN.start l, SpS.start _ _, rfl, Below.refl _ _⟩
  case round =>
    obtain ⟨k, f, acc, rs, A, c, dl, B, cb, rfl, rfl, rfl, rfl, rfl, hak, hrl, hdl, hfd, hS, hsp, hb⟩ := hrel
    have HFD := Lib.hid hfd
    have HSP := Lib.hid hS
    have HB := Lib.hid hb
    have HSU := Lib.hid hsp
    obtain ⟨hk1, hk2⟩ := hfd.le
    have HK2 := Lib.hid hk2
    clear hfd hS hb hsp hk2
    by_cases hkl : k ≤ l.length
    · have hkf := HK2.out hkl
      have gk : decide ((k : Int) ≤ s.size) = true := by have := HSZ.out; simp; omega
      have gk2 : k ≤ s.size := by have := HSZ.out; omega
      have gk3 : f ≤ s.size := by omega
      obtain ⟨x, hx⟩ : ∃ x, (l.drop f).take (k - f) = x := ⟨_, rfl⟩
      have HX := Lib.hid hx
      obtain ⟨sx, hsx⟩ : ∃ y, sA x = y := ⟨_, rfl⟩
      have hext : s.extract f k = sx := by rw [← HS.out, sA_slice, hx, hsx]
      have hsxl : sx.size = x.length := by rw [← hsx, sA_sz]
      have hxl : x.length ≤ 262144 := by rw [← hx, List.length_take, List.length_drop]; omega
      have HSX := Lib.hid hsx
      have HNX := Lib.hid (show splU 0 ([], []) (acc ++ [x]) = stepU (rs.map Lr.lin, dl) acc.length x by rw [splU_snoc, HSU.out]; congr 1; omega)
      clear hx hsx
      by_cases hke : k = l.length
      · have hlt : decide ((k : Int) < s.size) = false := by have := HSZ.out; simp; omega
        have hnl : ¬ k < s.size := by have := HSZ.out; omega
        have HFN := Lib.hid (show FdN l (acc ++ [x]) (k + 1) (k + 1) by rw [← HX.out, hke]; have := HFD.out; rw [hke] at this; exact this.last)
        clear hke
        go_wp2_with (fail)
        have hcall := fields_r x (by omega) wr
        rw [HSX.out] at hcall
        refine hcall.mono ?_
        clear hcall
        rintro e w3 ⟨fv, rfl, hfo, hb3⟩
        obtain ⟨F, hF⟩ : ∃ F, fieldsP x = F := ⟨_, rfl⟩
        have HFF := Lib.hid hF
        rw [hF] at hfo ⊢
        clear hF
        obtain ⟨fl, col⟩ := F
        dsimp only at hfo ⊢
        have HFO := Lib.hid hfo
        have HB3 := Lib.hid hb3
        obtain ⟨A2, c2, rfl⟩ : ∃ A2 c2, fv = .slice A2 fl.length c2 := own_form hfo
        clear hfo hb3
        have hnn : 0 ≤ col := by have := fldF_nn (x.length + 1) 0 false [] x; have h2 := HFF.out; unfold fieldsP at h2; rw [h2] at this; exact this
        have hnu : col ≤ 300000 := by have := fldF_le (x.length + 1) 0 false [] x; have h2 := HFF.out; unfold fieldsP at h2; rw [h2] at this; dsimp only at this; omega
        by_cases h1000 : 1000 < x.length
        · have g3 : decide (1000 < (sx.size : Int)) = true := by simp; omega
          have HLI := Lib.hid (show linP x = ([], 1001, 9) by unfold linP; rw [if_neg (by omega)])
          go_wp2_with (at_builtin; refine wpList_app1 Tryz.dgElem _ rfl (.tmp 46) (.tmp 49) rfl w.heap.size B cb dl rfl ?o1 (⟨(acc.length : Int) + 1, 1001, 9⟩ : Dg) w3.heap.size 1 rfl ?o2 ?o3 ?o4 ?o5 ?_)
          case o1 => exact World.ownsRow.alloc (HSP.out.to HB3.out).dg _
          case o2 => first | exact heap_alloc_new _ _ | (rw [Int.sub_add_cancel]; exact heap_alloc_new _ _) | exact (Array.getElem?_eq_some_iff.1 (heap_alloc_new _ _)).2
          case o3 => unfold maxLen; omega
          case o4 => omega
          case o5 => first | (have := (cur_step1 HB.out HB3.out).size; omega) | (have := (cur_step1 HB.out HB3.out).size; simp; omega)
          intro g cap w6 ha
          have hb6 := (app1_end (cur_step1 HB.out HB3.out) (own_base (HSP.out.to HB3.out).dg) (cur_new _ _) ha).1
          have hs6 := (HSP.out.to HB3.out).diag (cur_new _ _) ha
          have HB6 := Lib.hid hb6
          have HS6 := Lib.hid hs6
          clear ha hb6 hs6
          go_wp2_with (fail)
          exact ⟨⟨k + 1, k + 1, acc ++ [x], rs, A, c, dl ++ [(⟨(acc.length : Int) + 1, 1001, 9⟩ : Dg)], some ⟨g, 0, none⟩, cap, rfl, rfl, by simp, rfl, by simp, by simp; omega, by omega, by simp; omega, HFN.out, HS6.out, by rw [HNX.out]; unfold stepU; rw [HLI.out]; dsimp only; rw [if_pos (by decide)], HB6.out⟩, by show M - (k + 1) < M - k; have := HM.out; omega⟩
        · have g3 : decide (1000 < (sx.size : Int)) = false := by simp; omega
          have HLI := Lib.hid (show linP x = (fl, col, 4) by unfold linP; rw [if_pos (by omega), HFF.out])
          by_cases hcol : 0 < col
          · have g4 : decide (0 ≤ col - 1) = true := by simp; omega
            go_wp2_with (at_builtin; refine wpList_app1 Tryz.dgElem _ rfl (.tmp 54) (.tmp 59) rfl w.heap.size B cb dl rfl ?o1 (⟨(acc.length : Int) + 1, col, 4⟩ : Dg) w3.heap.size 1 rfl ?o2 ?o3 ?o4 ?o5 ?_)
            case o1 => exact World.ownsRow.alloc (HSP.out.to HB3.out).dg _
            case o2 => first | exact heap_alloc_new _ _ | (rw [Int.sub_add_cancel]; exact heap_alloc_new _ _) | exact (Array.getElem?_eq_some_iff.1 (heap_alloc_new _ _)).2
            case o3 => unfold maxLen; omega
            case o4 => omega
            case o5 => first | (have := (cur_step1 HB.out HB3.out).size; omega) | (have := (cur_step1 HB.out HB3.out).size; simp; omega)
            intro g cap w6 ha
            have hb6 := (app1_end (cur_step1 HB.out HB3.out) (own_base (HSP.out.to HB3.out).dg) (cur_new _ _) ha).1
            have hs6 := (HSP.out.to HB3.out).diag (cur_new _ _) ha
            have HB6 := Lib.hid hb6
            have HS6 := Lib.hid hs6
            clear ha hb6 hs6
            go_wp2_with (fail)
            exact ⟨⟨k + 1, k + 1, acc ++ [x], rs, A, c, dl ++ [(⟨(acc.length : Int) + 1, col, 4⟩ : Dg)], some ⟨g, 0, none⟩, cap, rfl, rfl, by simp, rfl, by simp, by simp; omega, by omega, by simp; omega, HFN.out, HS6.out, by rw [HNX.out]; unfold stepU; rw [HLI.out]; dsimp only; rw [if_pos hcol], HB6.out⟩, by show M - (k + 1) < M - k; have := HM.out; omega⟩
          · have g4 : decide (0 ≤ col - 1) = false := by simp; omega
            have hc0 : col = 0 := by omega
            by_cases hfl : fl = []
            · subst hfl
              have HST := Lib.hid (show splU 0 ([], []) (acc ++ [x]) = (rs.map Lr.lin, dl) by rw [HNX.out]; unfold stepU; rw [HLI.out]; dsimp only; rw [if_neg hcol, if_neg (by simp)])
              clear hc0
              go_wp2_with (fail)
              exact ⟨⟨k + 1, k + 1, acc ++ [x], rs, A, c, dl, B, cb, rfl, rfl, by simp, rfl, rfl, by simp; omega, by omega, by omega, HFN.out, HSP.out.to HB3.out, HST.out, cur_step1 HB.out HB3.out⟩, by show M - (k + 1) < M - k; have := HM.out; omega⟩
            · have hfl0 : 0 < fl.length := List.length_pos_iff.2 hfl
              have g7 : decide (0 < (fl.length : Int)) = true := by simp; exact hfl0
              obtain ⟨gf, cf, hgf⟩ := own_fl HFO.out hfl
              injection hgf with hgf1 _ hgf3
              subst hgf1
              subst hgf3
              have HST := Lib.hid (show splU 0 ([], []) (acc ++ [x]) = ((rs ++ [(⟨(acc.length : Int) + 1, gf, c2, fl⟩ : Lr)]).map Lr.lin, dl) by rw [HNX.out]; unfold stepU; rw [HLI.out]; dsimp only; rw [if_neg hcol, if_pos ⟨hc0, hfl0⟩, List.map_append]; rfl)
              clear hc0
              go_wp2_with (at_builtin; refine wpList_app1 Tryz.lrElem _ rfl (.tmp 65) (.tmp 69) rfl w.heap.size A c rs rfl ?o1 (⟨(acc.length : Int) + 1, gf, c2, fl⟩ : Lr) w3.heap.size 1 rfl ?o2 ?o3 ?o4 ?o5 ?_)
              case o1 => exact World.ownsRow.alloc (HSP.out.to HB3.out).tab.own _
              case o2 => first | exact heap_alloc_new _ _ | exact (Array.getElem?_eq_some_iff.1 (heap_alloc_new _ _)).2
              case o3 => unfold maxLen; omega
              case o4 => omega
              case o5 => first | (have := (cur_step1 HB.out HB3.out).size; omega) | (have := (cur_step1 HB.out HB3.out).size; simp; omega)
              intro g cap w6 ha
              have hb6 := (app1_end (cur_step1 HB.out HB3.out) (own_base HSP.out.tab.own) (cur_new _ _) ha).1
              have hs6 := HSP.out.line (r := ⟨(acc.length : Int) + 1, gf, c2, fl⟩) (cur_step1 HB3.out (cur_new _ _)) (World.ownsRow.alloc (own_mono HFO.out HB.out.size) _) (own_blk HFO.out).1 ha
              have HB6 := Lib.hid hb6
              have HS6 := Lib.hid hs6
              clear ha hb6 hs6
              go_wp2_with (fail)
              exact ⟨⟨k + 1, k + 1, acc ++ [x], rs ++ [⟨(acc.length : Int) + 1, gf, c2, fl⟩], some ⟨g, 0, none⟩, cap, dl, B, cb, rfl, rfl, by simp, by simp, rfl, by simp; omega, by simp; omega, by omega, HFN.out, HS6.out, HST.out, HB6.out⟩, by show M - (k + 1) < M - k; have := HM.out; omega⟩
      · obtain ⟨ch, hch⟩ : ∃ ch, l[k]? = some ch := ⟨_, List.getElem?_eq_getElem (by omega)⟩
        obtain ⟨hz, hsj⟩ := sA_at HS.out hch
        have h256 : ch.toNat < 256 := ch.toNat_lt
        have hlt : decide ((k : Int) < s.size) = true := by have := HSZ.out; simp; omega
        by_cases h10 : ch = 10
        · have g10 : ((ch.toNat : Int) != 10) = false := by rw [h10]; rfl
          have HFN := Lib.hid (show FdN l (acc ++ [x]) (k + 1) (k + 1) by rw [← HX.out]; exact HFD.out.cut (by rw [hch, h10]))
          clear hch hke h10
          go_wp2_with (fail)
          have hcall := fields_r x (by omega) wr
          rw [HSX.out] at hcall
          refine hcall.mono ?_
          clear hcall
          rintro e w3 ⟨fv, rfl, hfo, hb3⟩
          obtain ⟨F, hF⟩ : ∃ F, fieldsP x = F := ⟨_, rfl⟩
          have HFF := Lib.hid hF
          rw [hF] at hfo ⊢
          clear hF
          obtain ⟨fl, col⟩ := F
          dsimp only at hfo ⊢
          have HFO := Lib.hid hfo
          have HB3 := Lib.hid hb3
          obtain ⟨A2, c2, rfl⟩ : ∃ A2 c2, fv = .slice A2 fl.length c2 := own_form hfo
          clear hfo hb3
          have hnn : 0 ≤ col := by have := fldF_nn (x.length + 1) 0 false [] x; have h2 := HFF.out; unfold fieldsP at h2; rw [h2] at this; exact this
          have hnu : col ≤ 300000 := by have := fldF_le (x.length + 1) 0 false [] x; have h2 := HFF.out; unfold fieldsP at h2; rw [h2] at this; dsimp only at this; omega
          by_cases h1000 : 1000 < x.length
          · have g3 : decide (1000 < (sx.size : Int)) = true := by simp; omega
            have HLI := Lib.hid (show linP x = ([], 1001, 9) by unfold linP; rw [if_neg (by omega)])
            go_wp2_with (at_builtin; refine wpList_app1 Tryz.dgElem _ rfl (.tmp 46) (.tmp 49) rfl w.heap.size B cb dl rfl ?o1 (⟨(acc.length : Int) + 1, 1001, 9⟩ : Dg) w3.heap.size 1 rfl ?o2 ?o3 ?o4 ?o5 ?_)
            case o1 => exact World.ownsRow.alloc (HSP.out.to HB3.out).dg _
            case o2 => first | exact heap_alloc_new _ _ | (rw [Int.sub_add_cancel]; exact heap_alloc_new _ _) | exact (Array.getElem?_eq_some_iff.1 (heap_alloc_new _ _)).2
            case o3 => unfold maxLen; omega
            case o4 => omega
            case o5 => first | (have := (cur_step1 HB.out HB3.out).size; omega) | (have := (cur_step1 HB.out HB3.out).size; simp; omega)
            intro g cap w6 ha
            have hb6 := (app1_end (cur_step1 HB.out HB3.out) (own_base (HSP.out.to HB3.out).dg) (cur_new _ _) ha).1
            have hs6 := (HSP.out.to HB3.out).diag (cur_new _ _) ha
            have HB6 := Lib.hid hb6
            have HS6 := Lib.hid hs6
            clear ha hb6 hs6
            go_wp2_with (fail)
            exact ⟨⟨k + 1, k + 1, acc ++ [x], rs, A, c, dl ++ [(⟨(acc.length : Int) + 1, 1001, 9⟩ : Dg)], some ⟨g, 0, none⟩, cap, rfl, rfl, by simp, rfl, by simp, by simp; omega, by omega, by simp; omega, HFN.out, HS6.out, by rw [HNX.out]; unfold stepU; rw [HLI.out]; dsimp only; rw [if_pos (by decide)], HB6.out⟩, by show M - (k + 1) < M - k; have := HM.out; omega⟩
          · have g3 : decide (1000 < (sx.size : Int)) = false := by simp; omega
            have HLI := Lib.hid (show linP x = (fl, col, 4) by unfold linP; rw [if_pos (by omega), HFF.out])
            by_cases hcol : 0 < col
            · have g4 : decide (0 ≤ col - 1) = true := by simp; omega
              go_wp2_with (at_builtin; refine wpList_app1 Tryz.dgElem _ rfl (.tmp 54) (.tmp 59) rfl w.heap.size B cb dl rfl ?o1 (⟨(acc.length : Int) + 1, col, 4⟩ : Dg) w3.heap.size 1 rfl ?o2 ?o3 ?o4 ?o5 ?_)
              case o1 => exact World.ownsRow.alloc (HSP.out.to HB3.out).dg _
              case o2 => first | exact heap_alloc_new _ _ | (rw [Int.sub_add_cancel]; exact heap_alloc_new _ _) | exact (Array.getElem?_eq_some_iff.1 (heap_alloc_new _ _)).2
              case o3 => unfold maxLen; omega
              case o4 => omega
              case o5 => first | (have := (cur_step1 HB.out HB3.out).size; omega) | (have := (cur_step1 HB.out HB3.out).size; simp; omega)
              intro g cap w6 ha
              have hb6 := (app1_end (cur_step1 HB.out HB3.out) (own_base (HSP.out.to HB3.out).dg) (cur_new _ _) ha).1
              have hs6 := (HSP.out.to HB3.out).diag (cur_new _ _) ha
              have HB6 := Lib.hid hb6
              have HS6 := Lib.hid hs6
              clear ha hb6 hs6
              go_wp2_with (fail)
              exact ⟨⟨k + 1, k + 1, acc ++ [x], rs, A, c, dl ++ [(⟨(acc.length : Int) + 1, col, 4⟩ : Dg)], some ⟨g, 0, none⟩, cap, rfl, rfl, by simp, rfl, by simp, by simp; omega, by omega, by simp; omega, HFN.out, HS6.out, by rw [HNX.out]; unfold stepU; rw [HLI.out]; dsimp only; rw [if_pos hcol], HB6.out⟩, by show M - (k + 1) < M - k; have := HM.out; omega⟩
            · have g4 : decide (0 ≤ col - 1) = false := by simp; omega
              have hc0 : col = 0 := by omega
              by_cases hfl : fl = []
              · subst hfl
                have HST := Lib.hid (show splU 0 ([], []) (acc ++ [x]) = (rs.map Lr.lin, dl) by rw [HNX.out]; unfold stepU; rw [HLI.out]; dsimp only; rw [if_neg hcol, if_neg (by simp)])
                clear hc0
                go_wp2_with (fail)
                exact ⟨⟨k + 1, k + 1, acc ++ [x], rs, A, c, dl, B, cb, rfl, rfl, by simp, rfl, rfl, by simp; omega, by omega, by omega, HFN.out, HSP.out.to HB3.out, HST.out, cur_step1 HB.out HB3.out⟩, by show M - (k + 1) < M - k; have := HM.out; omega⟩
              · have hfl0 : 0 < fl.length := List.length_pos_iff.2 hfl
                have g7 : decide (0 < (fl.length : Int)) = true := by simp; exact hfl0
                obtain ⟨gf, cf, hgf⟩ := own_fl HFO.out hfl
                injection hgf with hgf1 _ hgf3
                subst hgf1
                subst hgf3
                have HST := Lib.hid (show splU 0 ([], []) (acc ++ [x]) = ((rs ++ [(⟨(acc.length : Int) + 1, gf, c2, fl⟩ : Lr)]).map Lr.lin, dl) by rw [HNX.out]; unfold stepU; rw [HLI.out]; dsimp only; rw [if_neg hcol, if_pos ⟨hc0, hfl0⟩, List.map_append]; rfl)
                clear hc0
                go_wp2_with (at_builtin; refine wpList_app1 Tryz.lrElem _ rfl (.tmp 65) (.tmp 69) rfl w.heap.size A c rs rfl ?o1 (⟨(acc.length : Int) + 1, gf, c2, fl⟩ : Lr) w3.heap.size 1 rfl ?o2 ?o3 ?o4 ?o5 ?_)
                case o1 => exact World.ownsRow.alloc (HSP.out.to HB3.out).tab.own _
                case o2 => first | exact heap_alloc_new _ _ | exact (Array.getElem?_eq_some_iff.1 (heap_alloc_new _ _)).2
                case o3 => unfold maxLen; omega
                case o4 => omega
                case o5 => first | (have := (cur_step1 HB.out HB3.out).size; omega) | (have := (cur_step1 HB.out HB3.out).size; simp; omega)
                intro g cap w6 ha
                have hb6 := (app1_end (cur_step1 HB.out HB3.out) (own_base HSP.out.tab.own) (cur_new _ _) ha).1
                have hs6 := HSP.out.line (r := ⟨(acc.length : Int) + 1, gf, c2, fl⟩) (cur_step1 HB3.out (cur_new _ _)) (World.ownsRow.alloc (own_mono HFO.out HB.out.size) _) (own_blk HFO.out).1 ha
                have HB6 := Lib.hid hb6
                have HS6 := Lib.hid hs6
                clear ha hb6 hs6
                go_wp2_with (fail)
                exact ⟨⟨k + 1, k + 1, acc ++ [x], rs ++ [⟨(acc.length : Int) + 1, gf, c2, fl⟩], some ⟨g, 0, none⟩, cap, dl, B, cb, rfl, rfl, by simp, by simp, rfl, by simp; omega, by simp; omega, by omega, HFN.out, HS6.out, HST.out, HB6.out⟩, by show M - (k + 1) < M - k; have := HM.out; omega⟩
        · have g10 : ((ch.toNat : Int) != 10) = true := by simp; intro h; exact h10 (UInt8.toNat.inj (by simpa using (by omega : ch.toNat = 10)))
          have HFN := Lib.hid (show FdN l acc f (k + 1) from HFD.out.step hch h10)
          clear hch hke h10
          go_wp2_with (fail)
          exact ⟨⟨k + 1, f, acc, rs, A, c, dl, B, cb, rfl, rfl, rfl, rfl, rfl, by omega, by omega, by omega, HFN.out, HSP.out, HSU.out, HB.out⟩, by show M - (k + 1) < M - k; have := HM.out; omega⟩
    · have gk : decide ((k : Int) ≤ s.size) = false := by have := HSZ.out; simp; omega
      have gk2 : ¬ k ≤ s.size := by have := HSZ.out; omega
      have HEN := Lib.hid (show P = (rs.map Lr.lin, dl.take 50) by rw [HF.out, ← HFD.out.end_ (by omega), HSU.out])
      obtain ⟨m, hm⟩ : ∃ m : Nat, min dl.length 50 = m := ⟨_, rfl⟩
      have hmin : min (dl.length : Int) 50 = (m : Nat) := by omega
      have hcb : dl.length ≤ cb := own_cap HSP.out.dg
      have hm1 : m ≤ cb := by omega
      have hm2 : (m : Int) ≤ cb := by omega
      have HTL := Lib.hid (show m = (dl.take 50).length by rw [List.length_take]; omega)
      clear hkl hm
      go_wp2_with (fail)
      go_quiet (fail)
      go_wp2_with (fail)
      go_ret2
      rw [HEN.out]
      dsimp only
      rw [← HTL.out]
      exact ⟨A, c, rs, B, cb, dl, rfl, HSP.out.to (cur_drew _ _), rfl, rfl, below_drewN HB.out _⟩
end
end Go.Proofs.YtgkjcapoddjkhaaGreatDoor
