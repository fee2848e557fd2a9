/-
  Texts of one chapter, put together (a claim holds at most sixty files).
-/
import Derived.Test.YtgkjcapoddjkhaaGreatDoorEvT1
import Derived.Test.YtgkjcapoddjkhaaGreatDoorNotPa
import Derived.Test.YtgkjcapoddjkhaaGreatDoorEvP
import Derived.LoopTactic
import Derived.Deep.DeepCutAuto
import Derived.Deep.CutBlock
import Derived.Test.YtgkjcapoddjkhaaGreatDoorNotPrR
set_option linter.unusedSimpArgs false
set_option linter.unusedVariables false
namespace Go.Proofs.YtgkjcapoddjkhaaGreatDoor
section
/-! Chapter 7: the reference's Fields, the parts of a string between single blanks. -/
open Go.RowKit
set_option maxRecDepth 100000
set_option maxHeartbeats 4000000
/-- So far: the parts, where the next one begins, how far it has been looked at. -/
def FdI (l : List UInt8) (acc : List (List UInt8)) (f k : Nat) : Prop :=
  (k ≤ l.length ∧ f ≤ k ∧ (32 : UInt8) ∉ (l.drop f).take (k - f) ∧ splitC 32 l = acc ++ splitC 32 (l.drop f)) ∨ (k = l.length + 1 ∧ acc = splitC 32 l)
theorem FdI.start (l : List UInt8) : FdI l [] 0 0 := .inl ⟨by omega, by omega, by simp, by simp⟩
theorem FdI.step {l : List UInt8} {acc : List (List UInt8)} {f k : Nat} (h : FdI l acc f k) {c : UInt8} (hc : l[k]? = some c) (hn : c ≠ 32) : FdI l acc f (k + 1) := by
  have hk : k < l.length := (List.getElem?_eq_some_iff.1 hc).1
  rcases h with ⟨h1, h2, h3, h4⟩ | ⟨h1, _⟩
  · refine .inl ⟨by omega, by omega, ?_, h4⟩
    rw [show k + 1 - f = (k - f) + 1 by omega, List.take_add_one]
    intro hm
    rcases List.mem_append.1 hm with hm | hm
    · exact h3 hm
    · rw [List.getElem?_drop, show f + (k - f) = k by omega, hc] at hm
      simp at hm
      exact hn hm.symm
  · omega
theorem FdI.cut {l : List UInt8} {acc : List (List UInt8)} {f k : Nat} (h : FdI l acc f k) (hc : l[k]? = some 32) : FdI l (acc ++ [(l.drop f).take (k - f)]) (k + 1) (k + 1) := by
  have hk : k < l.length := (List.getElem?_eq_some_iff.1 hc).1
  rcases h with ⟨h1, h2, h3, h4⟩ | ⟨h1, _⟩
  · refine .inl ⟨by omega, by omega, by simp, ?_⟩
    have hd : l.drop f = (l.drop f).take (k - f) ++ 32 :: l.drop (k + 1) := by
      have e1 := (List.take_append_drop (k - f) (l.drop f)).symm
      rw [List.drop_drop, show f + (k - f) = k by omega, List.drop_eq_getElem_cons hk] at e1
      have e2 : l[k] = 32 := Option.some.inj ((List.getElem?_eq_getElem hk).symm.trans hc)
      rw [e2] at e1
      exact e1
    rw [h4, List.append_assoc]
    congr 1
    conv => lhs; rw [hd, splitC_app h3]
    rfl
  · omega
theorem FdI.last {l : List UInt8} {acc : List (List UInt8)} {f : Nat} (h : FdI l acc f l.length) : FdI l (acc ++ [(l.drop f).take (l.length - f)]) (l.length + 1) (l.length + 1) := by
  rcases h with ⟨h1, h2, h3, h4⟩ | ⟨h1, _⟩
  · refine .inr ⟨rfl, ?_⟩
    have e : (l.drop f).take (l.length - f) = l.drop f := by rw [List.take_of_length_le]; rw [List.length_drop]; omega
    rw [e] at h3 ⊢
    rw [h4, splitC_none h3]
  · omega
theorem FdI.end_ {l : List UInt8} {acc : List (List UInt8)} {f k : Nat} (h : FdI l acc f k) (hk : l.length < k) : acc = splitC 32 l := by
  rcases h with ⟨h1, _⟩ | ⟨_, h2⟩
  · omega
  · exact h2
theorem FdI.le {l : List UInt8} {acc : List (List UInt8)} {f k : Nat} (h : FdI l acc f k) : k ≤ l.length + 1 ∧ (k ≤ l.length → f ≤ k) := by
  rcases h with ⟨h1, h2, _⟩ | ⟨h1, _⟩ <;> omega
def FdR (l : List UInt8) (w : World) (lv fv iv : Value) (wr : World) : Prop := ∃ (acc : List (List UInt8)) (f k : Nat) (A : Option Addr) (c : Nat), lv = .slice A acc.length c ∧ fv = .int .i64 f ∧ iv = .int .i64 k ∧ acc.length ≤ k ∧ FdI l acc f k ∧ OwnL stE 1 9 w.heap.size wr (.slice A acc.length c) acc ∧ Below w.heap.size w wr
theorem sA_sl7 (l : List UInt8) (f k : Nat) : (sA l).extract f k = sA ((l.drop f).take (k - f)) := by
  apply ByteArray.ext
  unfold sA
  rw [ByteArray.data_extract]
  apply Array.ext'
  simp
theorem fields7_r (l : List UInt8) (hl : l.length ≤ 1000000) (w : World) : Calls Tryz.prog 46 #[.string (sA l)] w fun e w' => ∃ A c, e = .returned (.slice A (fieldsS l).length c) ∧ OwnL stE 1 9 w.heap.size w' (.slice A (fieldsS l).length c) (fieldsS l) ∧ Below w.heap.size w w' := by
  by_cases h0 : l = []
  · subst h0
    have g0 : ((sA []).toList == []) = true := by rw [sA_to]; rfl
    generalize hs0 : sA [] = s0 at *
    clear hs0
    go_enter Tryz.func46, Tryz.ntmps46
    go_wp2_with (fail)
    go_ret
    exact ⟨none, 0, rfl, World.ownsRow_nil _ _ _ _, Below.refl _ _⟩
  have g0 : ((sA l).toList == []) = false := by rw [sA_to]; simpa using h0
  have HF := Lib.hid (show fieldsS l = splitC 32 l by unfold fieldsS; rw [if_neg h0])
  obtain ⟨s, hs⟩ : ∃ s, sA l = s := ⟨_, rfl⟩
  rw [hs] at g0
  have HS := Lib.hid hs
  have HSZ := Lib.hid (show s.size = l.length by rw [← hs, sA_size])
  have hsz : s.size ≤ 1000000 := by rw [HSZ.out]; exact hl
  rw [hs]
  clear h0 hs
  go_enter Tryz.func46, Tryz.ntmps46
  go_wp2_with (fail)
  obtain ⟨M, hM⟩ : ∃ M : Nat, l.length + 1 = M := ⟨_, rfl⟩
  have HM := Lib.hid hM
  clear hM
  go_loopw [3, 4, 5] (FdR l w) (fun _ _ i _ => M - (intOf i).toNat)
  case atStart => exact ⟨[], 0, 0, none, 0, rfl, rfl, rfl, Nat.le_refl _, FdI.start l, World.ownsRow_nil _ _ _ _, Below.refl _ _⟩
  case round =>
    obtain ⟨acc, f, k, A, c, rfl, rfl, rfl, hak, hfd, hown, hb⟩ := hrel
    have HFD := Lib.hid hfd
    have HO := Lib.hid hown
    have HB := Lib.hid hb
    obtain ⟨hk1, hk2⟩ := hfd.le
    have HK2 := Lib.hid hk2
    clear hfd hown hb hk2
    by_cases hkl : k ≤ l.length
    · have hkf := HK2.out hkl
      have gk : decide ((k : Int) ≤ s.size) = true := by have := HSZ.out; simp; omega
      have gk2 : k ≤ s.size := by have := HSZ.out; omega
      have gk3 : f ≤ s.size := by omega
      obtain ⟨P, hP⟩ : ∃ P, (l.drop f).take (k - f) = P := ⟨_, rfl⟩
      obtain ⟨sP, hsP⟩ : ∃ y, sA P = y := ⟨_, rfl⟩
      have hx : s.extract f k = sP := by rw [← HS.out, sA_sl7, hP, hsP]
      have HP := Lib.hid hP
      have HSP := Lib.hid hsP
      have HX := Lib.hid (show s.extract f k = sA P by rw [hx, hsP])
      clear hP hsP
      by_cases hke : k = l.length
      · have ge : (((k : Int)) == (s.size : Int)) = true := by have := HSZ.out; simp; omega
        have HFL := Lib.hid (show FdI l (acc ++ [P]) (k + 1) (k + 1) by rw [← HP.out, hke]; have := HFD.out; rw [hke] at this; exact this.last)
        have hkn : k ≤ 1000001 := by omega
        have HKE := Lib.hid hke
        clear hke
        · go_wp2_with (first | (refine wpList_app1 Tryz.stElem _ rfl (.tmp 24) (.tmp 29) rfl w.heap.size A c acc rfl ?o1 P wr.heap.size 1 rfl ?o2 ?o3 ?o4 ?o5 ?_) | rw [HX.out])
          case o1 => exact World.ownsRow.alloc HO.out _
          case o2 => rw [← HSP.out]; first | exact heap_alloc_new _ _ | exact (Array.getElem?_eq_some_iff.1 (heap_alloc_new _ _)).2
          case o3 => unfold maxLen; omega
          case o4 => omega
          case o5 => have := HB.out.size; first | omega | (simp; omega)
          intro g cap w8 ha
          have hb8 := app1_end (f := P) (enc := stE) (l := acc) HB.out (own_base HO.out) (cur_new wr _) ha
          have HO8 := Lib.hid hb8.2
          have HB8 := Lib.hid hb8.1
          clear ha hb8
          go_wp2_with (fail)
          exact ⟨⟨acc ++ [P], k + 1, k + 1, _, cap, by simp, rfl, rfl, by simp; omega, HFL.out, HO8.out, HB8.out⟩, by show M - (k + 1) < M - k; have := HM.out; omega⟩
      · obtain ⟨ch, hch⟩ : ∃ ch, l[k]? = some ch := ⟨_, List.getElem?_eq_getElem (by omega)⟩
        have hks : k < s.size := by have := HSZ.out; omega
        have hix : s[k]'hks = ch := by
          have h1 := HS.out
          subst h1
          have h2 : (sA l).data[k]? = some ch := by unfold sA; simpa using hch
          exact (Array.getElem?_eq_some_iff.1 h2).2
        have ge : (((k : Int)) == (s.size : Int)) = false := by have := HSZ.out; simp; omega
        have hkn : k ≤ 1000001 := by omega
        by_cases h32 : ch = 32
        · subst h32
          have HFL := Lib.hid (show FdI l (acc ++ [P]) (k + 1) (k + 1) by rw [← HP.out]; exact HFD.out.cut hch)
          clear hch hke
          go_wp2_with (first | (refine wpList_app1 Tryz.stElem _ rfl (.tmp 24) (.tmp 29) rfl w.heap.size A c acc rfl ?o1 P wr.heap.size 1 rfl ?o2 ?o3 ?o4 ?o5 ?_) | rw [HX.out])
          case o1 => exact World.ownsRow.alloc HO.out _
          case o2 => rw [← HSP.out]; first | exact heap_alloc_new _ _ | exact (Array.getElem?_eq_some_iff.1 (heap_alloc_new _ _)).2
          case o3 => unfold maxLen; omega
          case o4 => omega
          case o5 => have := HB.out.size; first | omega | (simp; omega)
          intro g cap w8 ha
          have hb8 := app1_end (f := P) (enc := stE) (l := acc) HB.out (own_base HO.out) (cur_new wr _) ha
          have HO8 := Lib.hid hb8.2
          have HB8 := Lib.hid hb8.1
          clear ha hb8
          go_wp2_with (fail)
          exact ⟨⟨acc ++ [P], k + 1, k + 1, _, cap, by simp, rfl, rfl, by simp; omega, HFL.out, HO8.out, HB8.out⟩, by show M - (k + 1) < M - k; have := HM.out; omega⟩
        · have g32 : ((ch.toNat : Int) == 32) = false := by
            simp only [beq_eq_false_iff_ne, ne_eq]
            intro h
            exact h32 (UInt8.toNat.inj (by simpa using (by omega : ch.toNat = 32)))
          have HFL := Lib.hid (show FdI l acc f (k + 1) from HFD.out.step hch h32)
          clear hch hke h32
          go_wp2_with (fail)
          exact ⟨⟨acc, f, k + 1, A, c, rfl, rfl, rfl, by omega, HFL.out, HO.out, HB.out⟩, by show M - (k + 1) < M - k; have := HM.out; omega⟩
    · have gk : decide ((k : Int) ≤ s.size) = false := by have := HSZ.out; simp; omega
      have gk2 : ¬ k ≤ s.size := by have := HSZ.out; omega
      have HEN := Lib.hid (show acc = fieldsS l by rw [HF.out]; exact HFD.out.end_ (by omega))
      clear hkl
      go_wp2_with (fail)
      go_ret
      rw [← HEN.out]
      exact ⟨A, c, rfl, HO.out, HB.out⟩
end

section
/-! Chapter 7: the reference's reading: one byte, a number. -/
open Go.RowKit
set_option maxRecDepth 100000
set_option maxHeartbeats 4000000
theorem has_r (l : List UInt8) (hl : l.length ≤ 1000000) (c : UInt8) (w : World) : Calls Tryz.prog 113 #[.string (sA l), .int .u8 c.toNat] w fun e w' => e = .returned (.bool (hasC l c)) ∧ w = w' := by
  obtain ⟨v, hv⟩ : ∃ v, hasC l c = v := ⟨_, rfl⟩
  rw [hv]
  cases l with
  | nil =>
    have HV := Lib.hid hv
    have hz : (sA []).size = 0 := rfl
    clear hv
    go_enter Tryz.func113, Tryz.ntmps113
    go_wp2_with fail
    go_ret
    exact ⟨by rw [← HV.out]; rfl, rfl⟩
  | cons x r =>
    have hq : ((x.toNat : Int) == c.toNat) = v := by
      rw [← hv]
      by_cases h : x = c
      · subst h; simp [hasC]
      · rw [hasC_ne r h]
        simp only [beq_eq_false_iff_ne, ne_eq]
        intro h2
        exact h (UInt8.toNat.inj (by omega))
    obtain ⟨s, hs⟩ : ∃ s, sA (x :: r) = s := ⟨_, rfl⟩
    have hz : 0 < s.size := by rw [← hs]; exact sA_pos x r
    have hz2 : s.size ≤ 1000000 := by rw [← hs, sA_size]; exact hl
    have hs0 : s[0]'hz = x := by subst hs; exact sA_zero x r
    rw [hs]
    clear hs hv hl
    go_enter Tryz.func113, Tryz.ntmps113
    go_wp2_with fail
    go_ret
    exact ⟨rfl, rfl⟩
def nVal (l : List UInt8) : Nat → Int
  | 0 => 0
  | 1 => (rdD l).1
  | _ => (rdN l).1
def NumL (l : List UInt8) (w : World) (n i : Value) (wr : World) : Prop := w = wr ∧ ((n = .int .i64 0 ∧ i = .int .i64 0) ∨
  (∃ c r, l = c :: r ∧ digC c = true ∧ n = .int .i64 ((c.toNat : Int) - 48) ∧ i = .int .i64 1) ∨
  (∃ c d r, l = c :: d :: r ∧ digC c = true ∧ digC d = true ∧ n = .int .i64 (10 * ((c.toNat : Int) - 48) + ((d.toNat : Int) - 48)) ∧ i = .int .i64 2))
theorem ext_zero (s : ByteArray) : s.extract 0 s.size = s := by simp
theorem dig_rng {c : UInt8} (h : digC c = true) : 48 ≤ c.toNat ∧ c.toNat ≤ 57 := by unfold digC at h; simpa using h
theorem sA_two (c d : UInt8) (r : List UInt8) : 1 < (sA (c :: d :: r)).size := by rw [sA_size]; simp
theorem sA_one (c d : UInt8) (r : List UInt8) : (sA (c :: d :: r))[1]'(sA_two c d r) = d := rfl
theorem sA_tail2 (c d : UInt8) (r : List UInt8) : (sA (c :: d :: r)).extract 2 (sA (c :: d :: r)).size = sA r := by
  apply ByteArray.ext
  rw [ByteArray.data_extract]
  apply Array.ext'
  rw [Array.toList_extract]
  simp [sA, ByteArray.size, List.extract]
theorem rdN_nil : rdN [] = (0, []) := rfl
theorem rdN_not {c : UInt8} {r : List UInt8} (h : digC c = false) : rdN (c :: r) = (0, c :: r) := by unfold rdN; simp [rdD, hasD, h]
theorem rdN_one {c : UInt8} (h : digC c = true) : rdN [c] = ((c.toNat : Int) - 48, []) := by unfold rdN; simp [rdD, hasD, h]
theorem rdN_on {c d : UInt8} {r : List UInt8} (h : digC c = true) (h2 : digC d = false) : rdN (c :: d :: r) = ((c.toNat : Int) - 48, d :: r) := by unfold rdN; simp [rdD, hasD, h, h2]
theorem rdN_two {c d : UInt8} {r : List UInt8} (h : digC c = true) (h2 : digC d = true) : rdN (c :: d :: r) = (10 * ((c.toNat : Int) - 48) + ((d.toNat : Int) - 48), r) := by unfold rdN; simp [rdD, hasD, h, h2]
theorem number7_r (l : List UInt8) (hl : l.length ≤ 1000000) (w : World) : Calls Tryz.prog 114 #[.string (sA l)] w fun e w' => e = .returned (.tuple #[.int .i64 (rdN l).1, .string (sA (rdN l).2)]) ∧ Below w.heap.size w w' := by
  obtain ⟨R, hR⟩ : ∃ R, rdN l = R := ⟨_, rfl⟩
  rw [hR]
  have HR := Lib.hid hR
  clear hR
  obtain ⟨s, hs⟩ : ∃ s, sA l = s := ⟨_, rfl⟩
  have hz2 : s.size ≤ 1000000 := by rw [← hs, sA_size]; exact hl
  have hsz : s.size = l.length := by rw [← hs, sA_size]
  rw [hs]
  have HS := Lib.hid hs
  have HSZ := Lib.hid hsz
  clear hs hl hsz
  go_enter Tryz.func114, Tryz.ntmps114
  go_wp2_with (fail)
  go_loopw [4, 5] (NumL l w) (fun _ i _ => 2 - (intOf i).toNat)
  case atStart => exact ⟨rfl, .inl ⟨rfl, rfl⟩⟩
  case round =>
    obtain ⟨rfl, h⟩ := hrel
    rcases h with ⟨rfl, rfl⟩ | ⟨c, r, rfl, hc, rfl, rfl⟩ | ⟨c, d, r, rfl, hc, hd, rfl, rfl⟩
    · cases l with
      | nil =>
        have hz : s.size = 0 := HSZ.out
        have ht : s.extract 0 s.size = s := ext_zero s
        go_wp2_with (fail)
        go_quiet (fail)
        go_wp2_with (fail)
        go_ret2
        have hR : R = (0, []) := by rw [← HR.out]; rfl
        rw [hR]
        exact ⟨rfl, cur_drew _ _⟩
      | cons c r =>
        have hz : 0 < s.size := by rw [HSZ.out]; simp
        have hs0 : s[0]'hz = c := by have := HS.out; subst this; exact sA_zero c r
        have ht : s.extract 0 s.size = s := ext_zero s
        have h256 : c.toNat < 256 := c.toNat_lt
        by_cases h1 : c.toNat < 48
        · have HX := Lib.hid (show digC c = false by unfold digC; simp; omega)
          have g1 : decide (48 ≤ (c.toNat : Int)) = false := by simp; omega
          clear h1
          go_wp2_with (fail)
          go_quiet (fail)
          go_wp2_with (fail)
          go_ret2
          have hR : R = (0, c :: r) := by rw [← HR.out]; exact rdN_not HX.out
          rw [hR]
          dsimp only
          rw [HS.out]
          exact ⟨rfl, cur_drew _ _⟩
        by_cases h2 : 57 < c.toNat
        · have HX := Lib.hid (show digC c = false by unfold digC; simp; omega)
          have g1 : decide (48 ≤ (c.toNat : Int)) = true := by simp; omega
          have g2 : decide ((c.toNat : Int) ≤ 57) = false := by simp; omega
          clear h1 h2
          go_wp2_with (fail)
          go_quiet (fail)
          go_wp2_with (fail)
          go_ret2
          have hR : R = (0, c :: r) := by rw [← HR.out]; exact rdN_not HX.out
          rw [hR]
          dsimp only
          rw [HS.out]
          exact ⟨rfl, cur_drew _ _⟩
        · have HX := Lib.hid (show digC c = true by unfold digC; simp; omega)
          have g1 : decide (48 ≤ (c.toNat : Int)) = true := by simp; omega
          have g2 : decide ((c.toNat : Int) ≤ 57) = true := by simp; omega
          have g3 := digit_wrap (x := c) (by omega)
          have b1 : 48 ≤ c.toNat := by omega
          have b2 : c.toNat ≤ 57 := by omega
          clear h1 h2
          go_wp2_with (fail)
          exact ⟨⟨rfl, .inr (.inl ⟨c, r, rfl, HX.out, rfl, rfl⟩)⟩, by show 2 - 1 < 2 - 0; omega⟩
    · have hcd := dig_rng hc
      obtain ⟨cb1, cb2⟩ := hcd
      have HC := Lib.hid hc
      clear hc
      cases r with
      | nil =>
        have hz : s.size = 1 := HSZ.out
        have hz1 : (1 : Int) ≤ s.size := by omega
        have ht : s.extract 1 s.size = sA [] := by rw [← HS.out]; exact sA_tail c []
        go_wp2_with (fail)
        go_quiet (fail)
        go_wp2_with (fail)
        go_ret2
        have hR : R = ((c.toNat : Int) - 48, []) := by rw [← HR.out]; exact rdN_one HC.out
        rw [hR]
        exact ⟨rfl, cur_drew _ _⟩
      | cons d r =>
        have hz : 1 < s.size := by rw [HSZ.out]; simp
        have hz1 : (1 : Int) ≤ s.size := by omega
        have hs1 : s[1]'hz = d := by have := HS.out; subst this; exact sA_one c d r
        have ht : s.extract 1 s.size = sA (d :: r) := by rw [← HS.out]; exact sA_tail c (d :: r)
        have h256 : d.toNat < 256 := d.toNat_lt
        by_cases h1 : d.toNat < 48
        · have HX := Lib.hid (show digC d = false by unfold digC; simp; omega)
          have g1 : decide (48 ≤ (d.toNat : Int)) = false := by simp; omega
          clear h1
          go_wp2_with (fail)
          go_quiet (fail)
          go_wp2_with (fail)
          go_ret2
          have hR : R = ((c.toNat : Int) - 48, d :: r) := by rw [← HR.out]; exact rdN_on HC.out HX.out
          rw [hR]
          exact ⟨rfl, cur_drew _ _⟩
        by_cases h2 : 57 < d.toNat
        · have HX := Lib.hid (show digC d = false by unfold digC; simp; omega)
          have g1 : decide (48 ≤ (d.toNat : Int)) = true := by simp; omega
          have g2 : decide ((d.toNat : Int) ≤ 57) = false := by simp; omega
          clear h1 h2
          go_wp2_with (fail)
          go_quiet (fail)
          go_wp2_with (fail)
          go_ret2
          have hR : R = ((c.toNat : Int) - 48, d :: r) := by rw [← HR.out]; exact rdN_on HC.out HX.out
          rw [hR]
          exact ⟨rfl, cur_drew _ _⟩
        · have HX := Lib.hid (show digC d = true by unfold digC; simp; omega)
          have g1 : decide (48 ≤ (d.toNat : Int)) = true := by simp; omega
          have g2 : decide ((d.toNat : Int) ≤ 57) = true := by simp; omega
          have g3 := digit_wrap (x := d) (by omega)
          have b1 : 48 ≤ d.toNat := by omega
          have b2 : d.toNat ≤ 57 := by omega
          clear h1 h2
          go_wp2_with (fail)
          exact ⟨⟨rfl, .inr (.inr ⟨c, d, r, rfl, HC.out, HX.out, rfl, rfl⟩)⟩, by show 2 - 2 < 2 - 1; omega⟩
    · have HC := Lib.hid hc
      have HD := Lib.hid hd
      clear hc hd
      have hz : 2 ≤ s.size := by rw [HSZ.out]; simp
      have hz1 : (2 : Int) ≤ s.size := by omega
      have ht : s.extract 2 s.size = sA r := by rw [← HS.out]; exact sA_tail2 c d r
      by_cases h3 : s.size = 2
      · have h4 : decide ((2 : Int) < s.size) = false := by simp; omega
        have hrn : r = [] := by (have := HSZ.out; rw [h3] at this; simp at this; exact this)
        subst hrn
        go_wp2_with (fail)
        go_quiet (fail)
        go_wp2_with (fail)
        go_ret2
        have hR : R = (10 * ((c.toNat : Int) - 48) + ((d.toNat : Int) - 48), []) := by rw [← HR.out]; exact rdN_two HC.out HD.out
        rw [hR]
        exact ⟨rfl, cur_drew _ _⟩
      · have h4 : decide ((2 : Int) < s.size) = true := by simp; omega
        go_wp2_with (fail)
        go_quiet (fail)
        go_wp2_with (fail)
        go_ret2
        have hR : R = (10 * ((c.toNat : Int) - 48) + ((d.toNat : Int) - 48), r) := by rw [← HR.out]; exact rdN_two HC.out HD.out
        rw [hR]
        exact ⟨rfl, cur_drew _ _⟩
end

section
/-! Chapter 7: the reference's reading of a dismissal. -/
open Go.RowKit
set_option maxRecDepth 100000
set_option maxHeartbeats 4000000
/-- The state: the delivery, the result's place, the rest of memory. -/
structure OSt (b h : Nat) (w wr : World) (d : Del) : Prop where
  dl : Blk wr b 27 (delE d)
  zr : Blk wr h 27 (delE zeroD)
  bl : Below w.heap.size w wr
theorem OSt.set {b h : Nat} {w wr : World} {d d' : Del} (H : OSt b h w wr d) (hb : w.heap.size ≤ b) (hne : h ≠ b) (j : Nat) (u : Value) (hd : (delE d).set j u = delE d') : OSt b h w (wr.setCell ⟨b, j, none⟩ u) d' :=
  ⟨by rw [← hd]; exact H.dl.set j u, H.zr.other hne j u, below_set H.bl hb j u⟩
theorem OSt.to {b h : Nat} {w wr w1 : World} {d : Del} (H : OSt b h w wr d) (hb : Below wr.heap.size wr w1) : OSt b h w w1 d := ⟨H.dl.to hb, H.zr.to hb, cur_step1 H.bl hb⟩
/-- The way of being out, after k letters. -/
def howK (l : List UInt8) (k : Nat) : Int := (List.range k).foldl (fun (a : Int) i => if hasC l (lettersL.getD i 0) then (i : Int) else a) 0
theorem howK_succ (l : List UInt8) (k : Nat) : howK l (k + 1) = if hasC l (lettersL.getD k 0) then (k : Int) else howK l k := by
  unfold howK
  rw [List.range_succ, List.foldl_append]
  rfl
theorem howK_all : ∀ n, n < 256 → howK [UInt8.ofNat n] 11 = idxL (UInt8.ofNat n) := by decide +kernel
theorem howK_cons (c : UInt8) (r : List UInt8) : howK (c :: r) 11 = idxL c := by
  have h := howK_all c.toNat c.toNat_lt
  rw [UInt8.ofNat_toNat] at h
  rw [← h]
  rfl
theorem howK_nil : howK [] 11 = 0 := by decide +kernel
def outL (s : List UInt8) : Wk × List UInt8 := match s with
    | [] => (⟨0, 0, 0, 0, false⟩, [])
    | c :: r =>
      let v := rdN r
      if hasC v.2 40 then
        let i := inner v.2.tail
        (⟨idxL c, v.1, i.1.1, i.1.2.1, i.1.2.2⟩, i.2)
      else (⟨idxL c, v.1, 0, 0, false⟩, v.2)
theorem q7_eq (s : List UInt8) : q7 s = if hasC s 47 = false then (⟨0, 0, 0, 0, false⟩, s) else outL s.tail := rfl
theorem wrap8 {k : Nat} (h : k < 11) : IntKind.u8.wrap (k : Int) = k := by
  show ((k : Int) % 256) = _
  omega
theorem hasC_split {l : List UInt8} {c : UInt8} (h : hasC l c = true) : l = c :: l.tail := by
  cases l with
  | nil => exact Bool.noConfusion h
  | cons x r => unfold hasC at h; simp at h; rw [h]; rfl
theorem len_tail {l : List UInt8} {n : Nat} (h : l.length ≤ n) : l.tail.length ≤ n := by rw [List.length_tail]; omega
theorem rdN_len (l : List UInt8) : (rdN l).2.length ≤ l.length := by
  match l with
  | [] => exact Nat.le_refl 0
  | [c] =>
    by_cases h : digC c = true
    · rw [rdN_one h]; simp
    · rw [rdN_not (by simpa using h)]; simp
  | c :: d :: r =>
    by_cases h : digC c = true
    · by_cases h2 : digC d = true
      · rw [rdN_two h h2]; simp; omega
      · rw [rdN_on h (by simpa using h2)]; simp
    · rw [rdN_not (by simpa using h)]; simp
theorem let_at {k : Nat} (h : k < 11) : (⟨#[78, 66, 67, 76, 83, 72, 82, 84, 79, 77, 81]⟩ : ByteArray)[k]'h = lettersL.getD k 0 := by
  have : k = 0 ∨ k = 1 ∨ k = 2 ∨ k = 3 ∨ k = 4 ∨ k = 5 ∨ k = 6 ∨ k = 7 ∨ k = 8 ∨ k = 9 ∨ k = 10 := by omega
  rcases this with rfl | rfl | rfl | rfl | rfl | rfl | rfl | rfl | rfl | rfl | rfl <;> rfl
def HowL (b h : Nat) (w : World) (l : List UInt8) (ty s1 runs short bd : Int) (cr : Bool) (sec : Int) (v : Value) (wr : World) : Prop :=
  ∃ k : Nat, k ≤ 11 ∧ v = .int .i64 k ∧ OSt b h w wr ⟨ty, s1, runs, short, bd, cr, howK l k, 0, 0, 0, false, sec⟩
theorem out_r (l : List UInt8) (hl : l.length ≤ 1000000) (ty s1 runs short bd : Int) (cr : Bool) (sec : Int) (w : World) :
    Calls Tryz.prog 115 #[delV ⟨ty, s1, runs, short, bd, cr, 0, 0, 0, 0, false, sec⟩, .string (sA l)] w fun e w' => e = .returned (.tuple #[delV ⟨ty, s1, runs, short, bd, cr, (outL l).1.how, (outL l).1.vic, (outL l).1.fd, (outL l).1.sd, (outL l).1.sub, sec⟩, .string (sA (outL l).2)]) ∧ Below w.heap.size w w' := by
  obtain ⟨R, hR⟩ : ∃ R, outL l = R := ⟨_, rfl⟩
  rw [hR]
  have HR := Lib.hid hR
  clear hR
  obtain ⟨s, hs⟩ : ∃ s, sA l = s := ⟨_, rfl⟩
  have hz2 : s.size ≤ 1000000 := by rw [← hs, sA_size]; exact hl
  have HLL := Lib.hid hl
  rw [hs]
  have HS := Lib.hid hs
  clear hs hl
  unfold delV
  dsimp only
  obtain ⟨w1, hw1⟩ : ∃ y, w.alloc (.cells #[.int .u8 ty, .int .u8 s1, .int .i64 runs, .int .i64 short, .int .i64 bd, .bool cr, .int .u8 0, .int .i64 0, .int .i64 0, .int .i64 0, .bool false, .int .i64 sec] 27) = y := ⟨_, rfl⟩
  have hsz1 : w1.heap.size = w.heap.size + 1 := by rw [← hw1]; simp
  obtain ⟨w2, hw2⟩ : ∃ y, w1.alloc (.cells (delE zeroD).toArray 27) = y := ⟨_, rfl⟩
  have HO := Lib.hid (show OSt w.heap.size (w.heap.size + 1) w w2 ⟨ty, s1, runs, short, bd, cr, 0, 0, 0, 0, false, sec⟩ from by
    refine ⟨?_, ?_, ?_⟩
    · rw [← hw2, ← hw1]; exact (Blk.new w 27 (delE ⟨ty, s1, runs, short, bd, cr, 0, 0, 0, 0, false, sec⟩)).to (cur_new _ _)
    · rw [← hw2, ← hsz1]; exact Blk.new w1 _ (delE zeroD)
    · rw [← hw2, ← hw1]; exact cur_two w _ _)
  have HSZ1 := Lib.hid hsz1
  have HW1 := Lib.hid hw1
  have HW2 := Lib.hid (show w1.alloc (.cells #[.int .u8 0, .int .u8 0, .int .i64 0, .int .i64 0, .int .i64 0, .bool false, .int .u8 0, .int .i64 0, .int .i64 0, .int .i64 0, .bool false, .int .i64 0] 27) = w2 by rw [← hw2]; rfl)
  clear hw1 hw2 hsz1
  go_enter Tryz.func115, Tryz.ntmps115
  go_wp2_with (first | rw [HW1.out] | rw [HW2.out])
  rw [HSZ1.out]
  obtain ⟨b, hb⟩ : ∃ b, w.heap.size = b := ⟨_, rfl⟩
  have HOB := Lib.hid (show OSt b (b + 1) w w2 ⟨ty, s1, runs, short, bd, cr, 0, 0, 0, 0, false, sec⟩ by rw [← hb]; exact HO.out)
  have HBB := Lib.hid hb
  obtain ⟨h, hh⟩ : ∃ h, b + 1 = h := ⟨_, rfl⟩
  rw [hb, hh]
  rw [hh] at HOB
  have hne : h ≠ b := by omega
  have HHH := Lib.hid hh
  clear hb hh HO HSZ1 HW1 HW2
  go_loopw [7] (HowL b h w l ty s1 runs short bd cr sec) (fun v _ => 11 - (intOf v).toNat)
  case atStart => exact ⟨0, by omega, rfl, HOB.out⟩
  case round =>
    obtain ⟨k, hk, rfl, ho⟩ := hrel
    have HO := Lib.hid ho
    clear ho
    by_cases hk11 : k = 11
    · subst hk11
      have hhow : OSt b h w wr ⟨ty, s1, runs, short, bd, cr, howK l 11, 0, 0, 0, false, sec⟩ := HO.out
      have HO11 := Lib.hid hhow
      clear hhow HO
      cases l with
      | nil =>
        have e1 : s.toList.isEmpty = true := by rw [← HS.out]; exact sA_emp0
        go_wp2_with (first | (refine wpList_loadC rfl _ 27 rfl b 27 (delE ⟨ty, s1, runs, short, bd, cr, howK [] 11, 0, 0, 0, false, sec⟩) _ rfl (by rfl) (by rfl) (by rfl) HO11.out.dl ?_) | (refine wpList_storeC rfl _ _ 27 rfl h 27 (delE zeroD) (delE ⟨ty, s1, runs, short, bd, cr, howK [] 11, 0, 0, 0, false, sec⟩).toArray api_info (by rfl) (by rfl) HO11.out.zr rfl (api_one _) ?_))
        refine ret_cell2 (g := h) (e := 27) (xs := (delE ⟨ty, s1, runs, short, bd, cr, howK [] 11, 0, 0, 0, false, sec⟩).toArray.toList) rfl (by rfl) (by rfl) (blk_row HO11.out.zr _) rfl (by rfl) (by rfl) rfl ?_
        have hfin : R = (⟨0, 0, 0, 0, false⟩, []) := by rw [← HR.out]; rfl
        rw [hfin, howK_nil]
        dsimp only
        rw [HS.out]
        exact ⟨rfl, row_below HO11.out.bl (by have := HBB.out; have := HHH.out; omega) _⟩
      | cons x r =>
        have e1 : s.toList.isEmpty = false := by rw [← HS.out]; exact sA_emp1 x r
        have ht : s.extract 1 s.size = sA r := by rw [← HS.out]; exact sA_tail x r
        have h1s : (1 : Int) ≤ s.size := by have hq : 0 < s.size := (by rw [← HS.out]; exact sA_pos x r); omega
        have HLR := Lib.hid (show r.length ≤ 1000000 by have := HLL.out; simp at this; omega)
        obtain ⟨v, hv⟩ : ∃ y, (rdN r).1 = y := ⟨_, rfl⟩
        have Nv := Lib.hid hv
        clear hv
        obtain ⟨l4, hl4⟩ : ∃ y, (rdN r).2 = y := ⟨_, rfl⟩
        have Nl4 := Lib.hid hl4
        clear hl4
        obtain ⟨s4, hs4⟩ : ∃ y, sA l4 = y := ⟨_, rfl⟩
        have Ns4 := Lib.hid hs4
        clear hs4
        have HL4 := Lib.hid (show l4.length ≤ 1000000 by have := rdN_len r; rw [Nl4.out] at this; have := HLR.out; omega)
        obtain ⟨sr, hsr⟩ : ∃ y, sA r = y := ⟨_, rfl⟩
        rw [hsr] at ht
        have HSR := Lib.hid hsr
        clear hsr
        have HO11b : Hid (OSt b h w wr ⟨ty, s1, runs, short, bd, cr, idxL x, 0, 0, 0, false, sec⟩) := Lib.hid (by have := HO11.out; rw [howK_cons] at this; exact this)
        clear HO11
        go_wp2_with (fail)
        have hcall := number7_r r HLR.out wr
        rw [HSR.out] at hcall
        refine hcall.mono ?_
        clear hcall
        rintro e w3 ⟨rfl, hb3⟩
        rw [Nv.out, Nl4.out, Ns4.out]
        have H3 := Lib.hid (HO11b.out.to hb3)
        clear hb3
        have d7 := H3.out.dl.cell 7
        simp only [delE, List.getElem?_cons_succ, List.getElem?_cons_zero] at d7
        have z7 := H3.out.dl.frozen 7
        have hlb := H3.out.dl.lt
        obtain ⟨w4, hw4⟩ : ∃ y, w3.setCell ⟨b, 7, none⟩ (.int .i64 v) = y := ⟨_, rfl⟩
        have H4 : Hid (OSt b h w w4 ⟨ty, s1, runs, short, bd, cr, idxL x, v, 0, 0, false, sec⟩) := Lib.hid (by rw [← hw4]; exact H3.out.set (Nat.le_of_eq HBB.out) hne 7 _ rfl)
        have Sw4 := Lib.hid hw4
        clear hw4
        obtain ⟨v40, hv40⟩ : ∃ y, hasC l4 40 = y := ⟨_, rfl⟩
        have Nv40 := Lib.hid hv40
        clear hv40
        go_wp2_with (rw [Sw4.out])
        clear d7 z7 hlb ht h1s
        have hcall := has_r l4 HL4.out 40 w4
        rw [Ns4.out] at hcall
        refine hcall.mono ?_
        clear hcall
        rintro e w5 ⟨rfl, rfl⟩
        rw [Nv40.out]
        cases v40
        · go_wp2_with (first | (refine wpList_loadC rfl _ 27 rfl b 27 (delE ⟨ty, s1, runs, short, bd, cr, idxL x, v, 0, 0, false, sec⟩) _ rfl (by rfl) (by rfl) (by rfl) H4.out.dl ?_) | (refine wpList_storeC rfl _ _ 27 rfl h 27 (delE zeroD) (delE ⟨ty, s1, runs, short, bd, cr, idxL x, v, 0, 0, false, sec⟩).toArray api_info (by rfl) (by rfl) H4.out.zr rfl (api_one _) ?_))
          refine ret_cell2 (g := h) (e := 27) (xs := (delE ⟨ty, s1, runs, short, bd, cr, idxL x, v, 0, 0, false, sec⟩).toArray.toList) rfl (by rfl) (by rfl) (blk_row H4.out.zr _) rfl (by rfl) (by rfl) rfl ?_
          have hfin : R = (⟨idxL x, v, 0, 0, false⟩, l4) := by rw [← HR.out]; unfold outL; dsimp only; rw [Nv.out, Nl4.out, Nv40.out]; rfl
          rw [hfin]
          dsimp only
          rw [Ns4.out]
          exact ⟨rfl, row_below H4.out.bl (by have := HBB.out; have := HHH.out; omega) _⟩
        · have hsp := hasC_split Nv40.out
          obtain ⟨l6, hl6⟩ : ∃ y, l4.tail = y := ⟨_, rfl⟩
          rw [hl6] at hsp
          have Nl6 := Lib.hid hl6
          obtain ⟨sl6, hsl6⟩ : ∃ y, sA l6 = y := ⟨_, rfl⟩
          have Nsl6 := Lib.hid hsl6
          have ht : s4.extract 1 s4.size = sl6 := by rw [← Ns4.out, hsp, ← hsl6]; exact sA_tail 40 l6
          have h1s : (1 : Int) ≤ s4.size := by have hq : 0 < s4.size := (by rw [← Ns4.out, hsp]; exact sA_pos 40 l6); omega
          have HL6 := Lib.hid (show l6.length ≤ 1000000 by rw [← hl6]; exact len_tail HL4.out)
          clear hsp hl6 hsl6
          have HRI := Lib.hid (show R = (⟨idxL x, v, (inner l6).1.1, (inner l6).1.2.1, (inner l6).1.2.2⟩, (inner l6).2) by rw [← HR.out]; unfold outL; dsimp only; rw [Nv.out, Nl4.out, Nv40.out, Nl6.out]; rfl)
          obtain ⟨n1, hn1⟩ : ∃ y, (rdN l6).1 = y := ⟨_, rfl⟩
          have Nn1 := Lib.hid hn1
          clear hn1
          obtain ⟨l7, hl7⟩ : ∃ y, (rdN l6).2 = y := ⟨_, rfl⟩
          have Nl7 := Lib.hid hl7
          clear hl7
          obtain ⟨s7, hs7⟩ : ∃ y, sA l7 = y := ⟨_, rfl⟩
          have Ns7 := Lib.hid hs7
          clear hs7
          have HL7 := Lib.hid (show l7.length ≤ 1000000 by have := rdN_len l6; rw [Nl7.out] at this; have := HL6.out; omega)
          go_wp2_with (fail)
          have hcall := number7_r l6 HL6.out w4
          rw [Nsl6.out] at hcall
          refine hcall.mono ?_
          clear hcall
          rintro e w6 ⟨rfl, hb3⟩
          rw [Nn1.out, Nl7.out, Ns7.out]
          have H6 := Lib.hid (H4.out.to hb3)
          clear hb3
          have d8 := H6.out.dl.cell 8
          simp only [delE, List.getElem?_cons_succ, List.getElem?_cons_zero] at d8
          have z8 := H6.out.dl.frozen 8
          have hlb := H6.out.dl.lt
          obtain ⟨w7, hw7⟩ : ∃ y, w6.setCell ⟨b, 8, none⟩ (.int .i64 n1) = y := ⟨_, rfl⟩
          have H7 : Hid (OSt b h w w7 ⟨ty, s1, runs, short, bd, cr, idxL x, v, n1, 0, false, sec⟩) := Lib.hid (by rw [← hw7]; exact H6.out.set (Nat.le_of_eq HBB.out) hne 8 _ rfl)
          have Sw7 := Lib.hid hw7
          clear hw7
          obtain ⟨v44, hv44⟩ : ∃ y, hasC l7 44 = y := ⟨_, rfl⟩
          have Nv44 := Lib.hid hv44
          clear hv44
          go_wp2_with (rw [Sw7.out])
          clear d8 z8 hlb ht h1s
          have hcall := has_r l7 HL7.out 44 w7
          rw [Ns7.out] at hcall
          refine hcall.mono ?_
          clear hcall
          rintro e w8 ⟨rfl, rfl⟩
          rw [Nv44.out]
          cases v44
          · obtain ⟨v115, hv115⟩ : ∃ y, hasC l7 115 = y := ⟨_, rfl⟩
            have Nv115 := Lib.hid hv115
            clear hv115
            go_wp2_with (fail)
            have hcall := has_r l7 HL7.out 115 w7
            rw [Ns7.out] at hcall
            refine hcall.mono ?_
            clear hcall
            rintro e wa ⟨rfl, rfl⟩
            rw [Nv115.out]
            cases v115
            · obtain ⟨v41, hv41⟩ : ∃ y, hasC l7 41 = y := ⟨_, rfl⟩
              have Nv41 := Lib.hid hv41
              clear hv41
              go_wp2_with (fail)
              have hcall := has_r l7 HL7.out 41 w7
              rw [Ns7.out] at hcall
              refine hcall.mono ?_
              clear hcall
              rintro e wb ⟨rfl, rfl⟩
              rw [Nv41.out]
              cases v41
              · go_wp2_with (first | (refine wpList_loadC rfl _ 27 rfl b 27 (delE ⟨ty, s1, runs, short, bd, cr, idxL x, v, n1, 0, false, sec⟩) _ rfl (by rfl) (by rfl) (by rfl) H7.out.dl ?_) | (refine wpList_storeC rfl _ _ 27 rfl h 27 (delE zeroD) (delE ⟨ty, s1, runs, short, bd, cr, idxL x, v, n1, 0, false, sec⟩).toArray api_info (by rfl) (by rfl) H7.out.zr rfl (api_one _) ?_))
                refine ret_cell2 (g := h) (e := 27) (xs := (delE ⟨ty, s1, runs, short, bd, cr, idxL x, v, n1, 0, false, sec⟩).toArray.toList) rfl (by rfl) (by rfl) (blk_row H7.out.zr _) rfl (by rfl) (by rfl) rfl ?_
                have hfin : R = (⟨idxL x, v, n1, 0, false⟩, l7) := by rw [HRI.out]; unfold inner; dsimp only; rw [Nl7.out, Nv44.out, Nn1.out]; simp only [Bool.false_eq_true, if_false]; rw [Nv115.out]; rw [show takeC l7 115 = l7 from by rw [takeC, Nv115.out]; rfl]; rw [takeC, Nv41.out]; rfl
                rw [hfin]
                dsimp only
                rw [Ns7.out]
                exact ⟨rfl, row_below H7.out.bl (by have := HBB.out; have := HHH.out; omega) _⟩
              · have hsp := hasC_split Nv41.out
                obtain ⟨lz, hlz⟩ : ∃ y, l7.tail = y := ⟨_, rfl⟩
                rw [hlz] at hsp
                have Nlz := Lib.hid hlz
                obtain ⟨slz, hslz⟩ : ∃ y, sA lz = y := ⟨_, rfl⟩
                have Nslz := Lib.hid hslz
                have ht : s7.extract 1 s7.size = slz := by rw [← Ns7.out, hsp, ← hslz]; exact sA_tail 41 lz
                have h1s : (1 : Int) ≤ s7.size := by have hq : 0 < s7.size := (by rw [← Ns7.out, hsp]; exact sA_pos 41 lz); omega
                have HLz := Lib.hid (show lz.length ≤ 1000000 by rw [← hlz]; exact len_tail HL7.out)
                clear hsp hlz hslz
                go_wp2_with (first | (refine wpList_loadC rfl _ 27 rfl b 27 (delE ⟨ty, s1, runs, short, bd, cr, idxL x, v, n1, 0, false, sec⟩) _ rfl (by rfl) (by rfl) (by rfl) H7.out.dl ?_) | (refine wpList_storeC rfl _ _ 27 rfl h 27 (delE zeroD) (delE ⟨ty, s1, runs, short, bd, cr, idxL x, v, n1, 0, false, sec⟩).toArray api_info (by rfl) (by rfl) H7.out.zr rfl (api_one _) ?_))
                refine ret_cell2 (g := h) (e := 27) (xs := (delE ⟨ty, s1, runs, short, bd, cr, idxL x, v, n1, 0, false, sec⟩).toArray.toList) rfl (by rfl) (by rfl) (blk_row H7.out.zr _) rfl (by rfl) (by rfl) rfl ?_
                have hfin : R = (⟨idxL x, v, n1, 0, false⟩, lz) := by rw [HRI.out]; unfold inner; dsimp only; rw [Nl7.out, Nv44.out, Nn1.out]; simp only [Bool.false_eq_true, if_false]; rw [Nv115.out]; rw [show takeC l7 115 = l7 from by rw [takeC, Nv115.out]; rfl]; rw [takeC, Nv41.out, if_pos rfl, Nlz.out]
                rw [hfin]
                dsimp only
                rw [Nslz.out]
                exact ⟨rfl, row_below H7.out.bl (by have := HBB.out; have := HHH.out; omega) _⟩
            · have hsp := hasC_split Nv115.out
              obtain ⟨lc, hlc⟩ : ∃ y, l7.tail = y := ⟨_, rfl⟩
              rw [hlc] at hsp
              have Nlc := Lib.hid hlc
              obtain ⟨slc, hslc⟩ : ∃ y, sA lc = y := ⟨_, rfl⟩
              have Nslc := Lib.hid hslc
              have ht : s7.extract 1 s7.size = slc := by rw [← Ns7.out, hsp, ← hslc]; exact sA_tail 115 lc
              have h1s : (1 : Int) ≤ s7.size := by have hq : 0 < s7.size := (by rw [← Ns7.out, hsp]; exact sA_pos 115 lc); omega
              have HLc := Lib.hid (show lc.length ≤ 1000000 by rw [← hlc]; exact len_tail HL7.out)
              clear hsp hlc hslc
              have d10 := H7.out.dl.cell 10
              simp only [delE, List.getElem?_cons_succ, List.getElem?_cons_zero] at d10
              have z10 := H7.out.dl.frozen 10
              have hlb := H7.out.dl.lt
              obtain ⟨wx, hwx⟩ : ∃ y, w7.setCell ⟨b, 10, none⟩ (.bool true) = y := ⟨_, rfl⟩
              have Hx : Hid (OSt b h w wx ⟨ty, s1, runs, short, bd, cr, idxL x, v, n1, 0, true, sec⟩) := Lib.hid (by rw [← hwx]; exact H7.out.set (Nat.le_of_eq HBB.out) hne 10 _ rfl)
              have Swx := Lib.hid hwx
              clear hwx
              go_wp2_with (fail)
              go_region
              all_goals (go_wp2_with (rw [Swx.out]))
              clear d10 z10 hlb ht h1s
              have Hy := Lib.hid (Hx.out.to ((Below.refl wx.heap.size wx).drew))
              obtain ⟨v41, hv41⟩ : ∃ y, hasC lc 41 = y := ⟨_, rfl⟩
              have Nv41 := Lib.hid hv41
              clear hv41
              go_wp2_with (fail)
              have hcall := has_r lc HLc.out 41 wx.drew
              rw [Nslc.out] at hcall
              refine hcall.mono ?_
              clear hcall
              rintro e wb ⟨rfl, rfl⟩
              rw [Nv41.out]
              cases v41
              · go_wp2_with (first | (refine wpList_loadC rfl _ 27 rfl b 27 (delE ⟨ty, s1, runs, short, bd, cr, idxL x, v, n1, 0, true, sec⟩) _ rfl (by rfl) (by rfl) (by rfl) Hy.out.dl ?_) | (refine wpList_storeC rfl _ _ 27 rfl h 27 (delE zeroD) (delE ⟨ty, s1, runs, short, bd, cr, idxL x, v, n1, 0, true, sec⟩).toArray api_info (by rfl) (by rfl) Hy.out.zr rfl (api_one _) ?_))
                refine ret_cell2 (g := h) (e := 27) (xs := (delE ⟨ty, s1, runs, short, bd, cr, idxL x, v, n1, 0, true, sec⟩).toArray.toList) rfl (by rfl) (by rfl) (blk_row Hy.out.zr _) rfl (by rfl) (by rfl) rfl ?_
                have hfin : R = (⟨idxL x, v, n1, 0, true⟩, lc) := by rw [HRI.out]; unfold inner; dsimp only; rw [Nl7.out, Nv44.out, Nn1.out]; simp only [Bool.false_eq_true, if_false]; rw [Nv115.out]; rw [show takeC l7 115 = lc from by rw [takeC, Nv115.out, if_pos rfl, Nlc.out]]; rw [takeC, Nv41.out]; rfl
                rw [hfin]
                dsimp only
                rw [Nslc.out]
                exact ⟨rfl, row_below Hy.out.bl (by have := HBB.out; have := HHH.out; omega) _⟩
              · have hsp := hasC_split Nv41.out
                obtain ⟨lz, hlz⟩ : ∃ y, lc.tail = y := ⟨_, rfl⟩
                rw [hlz] at hsp
                have Nlz := Lib.hid hlz
                obtain ⟨slz, hslz⟩ : ∃ y, sA lz = y := ⟨_, rfl⟩
                have Nslz := Lib.hid hslz
                have ht : slc.extract 1 slc.size = slz := by rw [← Nslc.out, hsp, ← hslz]; exact sA_tail 41 lz
                have h1s : (1 : Int) ≤ slc.size := by have hq : 0 < slc.size := (by rw [← Nslc.out, hsp]; exact sA_pos 41 lz); omega
                have HLz := Lib.hid (show lz.length ≤ 1000000 by rw [← hlz]; exact len_tail HLc.out)
                clear hsp hlz hslz
                go_wp2_with (first | (refine wpList_loadC rfl _ 27 rfl b 27 (delE ⟨ty, s1, runs, short, bd, cr, idxL x, v, n1, 0, true, sec⟩) _ rfl (by rfl) (by rfl) (by rfl) Hy.out.dl ?_) | (refine wpList_storeC rfl _ _ 27 rfl h 27 (delE zeroD) (delE ⟨ty, s1, runs, short, bd, cr, idxL x, v, n1, 0, true, sec⟩).toArray api_info (by rfl) (by rfl) Hy.out.zr rfl (api_one _) ?_))
                refine ret_cell2 (g := h) (e := 27) (xs := (delE ⟨ty, s1, runs, short, bd, cr, idxL x, v, n1, 0, true, sec⟩).toArray.toList) rfl (by rfl) (by rfl) (blk_row Hy.out.zr _) rfl (by rfl) (by rfl) rfl ?_
                have hfin : R = (⟨idxL x, v, n1, 0, true⟩, lz) := by rw [HRI.out]; unfold inner; dsimp only; rw [Nl7.out, Nv44.out, Nn1.out]; simp only [Bool.false_eq_true, if_false]; rw [Nv115.out]; rw [show takeC l7 115 = lc from by rw [takeC, Nv115.out, if_pos rfl, Nlc.out]]; rw [takeC, Nv41.out, if_pos rfl, Nlz.out]
                rw [hfin]
                dsimp only
                rw [Nslz.out]
                exact ⟨rfl, row_below Hy.out.bl (by have := HBB.out; have := HHH.out; omega) _⟩
          · have hsp := hasC_split Nv44.out
            obtain ⟨l9, hl9⟩ : ∃ y, l7.tail = y := ⟨_, rfl⟩
            rw [hl9] at hsp
            have Nl9 := Lib.hid hl9
            obtain ⟨sl9, hsl9⟩ : ∃ y, sA l9 = y := ⟨_, rfl⟩
            have Nsl9 := Lib.hid hsl9
            have ht : s7.extract 1 s7.size = sl9 := by rw [← Ns7.out, hsp, ← hsl9]; exact sA_tail 44 l9
            have h1s : (1 : Int) ≤ s7.size := by have hq : 0 < s7.size := (by rw [← Ns7.out, hsp]; exact sA_pos 44 l9); omega
            have HL9 := Lib.hid (show l9.length ≤ 1000000 by rw [← hl9]; exact len_tail HL7.out)
            clear hsp hl9 hsl9
            obtain ⟨n2, hn2⟩ : ∃ y, (rdN l9).1 = y := ⟨_, rfl⟩
            have Nn2 := Lib.hid hn2
            clear hn2
            obtain ⟨l10, hl10⟩ : ∃ y, (rdN l9).2 = y := ⟨_, rfl⟩
            have Nl10 := Lib.hid hl10
            clear hl10
            obtain ⟨s10, hs10⟩ : ∃ y, sA l10 = y := ⟨_, rfl⟩
            have Ns10 := Lib.hid hs10
            clear hs10
            have HL10 := Lib.hid (show l10.length ≤ 1000000 by have := rdN_len l9; rw [Nl10.out] at this; have := HL9.out; omega)
            go_wp2_with (fail)
            have hcall := number7_r l9 HL9.out w7
            rw [Nsl9.out] at hcall
            refine hcall.mono ?_
            clear hcall
            rintro e w9 ⟨rfl, hb3⟩
            rw [Nn2.out, Nl10.out, Ns10.out]
            have H9 := Lib.hid (H7.out.to hb3)
            clear hb3
            have d9 := H9.out.dl.cell 9
            simp only [delE, List.getElem?_cons_succ, List.getElem?_cons_zero] at d9
            have z9 := H9.out.dl.frozen 9
            have hlb := H9.out.dl.lt
            obtain ⟨w10, hw10⟩ : ∃ y, w9.setCell ⟨b, 9, none⟩ (.int .i64 n2) = y := ⟨_, rfl⟩
            have H10 : Hid (OSt b h w w10 ⟨ty, s1, runs, short, bd, cr, idxL x, v, n1, n2, false, sec⟩) := Lib.hid (by rw [← hw10]; exact H9.out.set (Nat.le_of_eq HBB.out) hne 9 _ rfl)
            have Sw10 := Lib.hid hw10
            clear hw10
            obtain ⟨v115, hv115⟩ : ∃ y, hasC l10 115 = y := ⟨_, rfl⟩
            have Nv115 := Lib.hid hv115
            clear hv115
            go_wp2_with (rw [Sw10.out])
            clear d9 z9 hlb ht h1s
            have hcall := has_r l10 HL10.out 115 w10
            rw [Ns10.out] at hcall
            refine hcall.mono ?_
            clear hcall
            rintro e wa ⟨rfl, rfl⟩
            rw [Nv115.out]
            cases v115
            · obtain ⟨v41, hv41⟩ : ∃ y, hasC l10 41 = y := ⟨_, rfl⟩
              have Nv41 := Lib.hid hv41
              clear hv41
              go_wp2_with (fail)
              have hcall := has_r l10 HL10.out 41 w10
              rw [Ns10.out] at hcall
              refine hcall.mono ?_
              clear hcall
              rintro e wb ⟨rfl, rfl⟩
              rw [Nv41.out]
              cases v41
              · go_wp2_with (first | (refine wpList_loadC rfl _ 27 rfl b 27 (delE ⟨ty, s1, runs, short, bd, cr, idxL x, v, n1, n2, false, sec⟩) _ rfl (by rfl) (by rfl) (by rfl) H10.out.dl ?_) | (refine wpList_storeC rfl _ _ 27 rfl h 27 (delE zeroD) (delE ⟨ty, s1, runs, short, bd, cr, idxL x, v, n1, n2, false, sec⟩).toArray api_info (by rfl) (by rfl) H10.out.zr rfl (api_one _) ?_))
                refine ret_cell2 (g := h) (e := 27) (xs := (delE ⟨ty, s1, runs, short, bd, cr, idxL x, v, n1, n2, false, sec⟩).toArray.toList) rfl (by rfl) (by rfl) (blk_row H10.out.zr _) rfl (by rfl) (by rfl) rfl ?_
                have hfin : R = (⟨idxL x, v, n1, n2, false⟩, l10) := by rw [HRI.out]; unfold inner; dsimp only; rw [Nl7.out, Nv44.out, Nn1.out]; simp only [if_true]; rw [Nl9.out, Nl10.out, Nn2.out, Nv115.out]; rw [show takeC l10 115 = l10 from by rw [takeC, Nv115.out]; rfl]; rw [takeC, Nv41.out]; rfl
                rw [hfin]
                dsimp only
                rw [Ns10.out]
                exact ⟨rfl, row_below H10.out.bl (by have := HBB.out; have := HHH.out; omega) _⟩
              · have hsp := hasC_split Nv41.out
                obtain ⟨lz, hlz⟩ : ∃ y, l10.tail = y := ⟨_, rfl⟩
                rw [hlz] at hsp
                have Nlz := Lib.hid hlz
                obtain ⟨slz, hslz⟩ : ∃ y, sA lz = y := ⟨_, rfl⟩
                have Nslz := Lib.hid hslz
                have ht : s10.extract 1 s10.size = slz := by rw [← Ns10.out, hsp, ← hslz]; exact sA_tail 41 lz
                have h1s : (1 : Int) ≤ s10.size := by have hq : 0 < s10.size := (by rw [← Ns10.out, hsp]; exact sA_pos 41 lz); omega
                have HLz := Lib.hid (show lz.length ≤ 1000000 by rw [← hlz]; exact len_tail HL10.out)
                clear hsp hlz hslz
                go_wp2_with (first | (refine wpList_loadC rfl _ 27 rfl b 27 (delE ⟨ty, s1, runs, short, bd, cr, idxL x, v, n1, n2, false, sec⟩) _ rfl (by rfl) (by rfl) (by rfl) H10.out.dl ?_) | (refine wpList_storeC rfl _ _ 27 rfl h 27 (delE zeroD) (delE ⟨ty, s1, runs, short, bd, cr, idxL x, v, n1, n2, false, sec⟩).toArray api_info (by rfl) (by rfl) H10.out.zr rfl (api_one _) ?_))
                refine ret_cell2 (g := h) (e := 27) (xs := (delE ⟨ty, s1, runs, short, bd, cr, idxL x, v, n1, n2, false, sec⟩).toArray.toList) rfl (by rfl) (by rfl) (blk_row H10.out.zr _) rfl (by rfl) (by rfl) rfl ?_
                have hfin : R = (⟨idxL x, v, n1, n2, false⟩, lz) := by rw [HRI.out]; unfold inner; dsimp only; rw [Nl7.out, Nv44.out, Nn1.out]; simp only [if_true]; rw [Nl9.out, Nl10.out, Nn2.out, Nv115.out]; rw [show takeC l10 115 = l10 from by rw [takeC, Nv115.out]; rfl]; rw [takeC, Nv41.out, if_pos rfl, Nlz.out]
                rw [hfin]
                dsimp only
                rw [Nslz.out]
                exact ⟨rfl, row_below H10.out.bl (by have := HBB.out; have := HHH.out; omega) _⟩
            · have hsp := hasC_split Nv115.out
              obtain ⟨lc, hlc⟩ : ∃ y, l10.tail = y := ⟨_, rfl⟩
              rw [hlc] at hsp
              have Nlc := Lib.hid hlc
              obtain ⟨slc, hslc⟩ : ∃ y, sA lc = y := ⟨_, rfl⟩
              have Nslc := Lib.hid hslc
              have ht : s10.extract 1 s10.size = slc := by rw [← Ns10.out, hsp, ← hslc]; exact sA_tail 115 lc
              have h1s : (1 : Int) ≤ s10.size := by have hq : 0 < s10.size := (by rw [← Ns10.out, hsp]; exact sA_pos 115 lc); omega
              have HLc := Lib.hid (show lc.length ≤ 1000000 by rw [← hlc]; exact len_tail HL10.out)
              clear hsp hlc hslc
              have d10 := H10.out.dl.cell 10
              simp only [delE, List.getElem?_cons_succ, List.getElem?_cons_zero] at d10
              have z10 := H10.out.dl.frozen 10
              have hlb := H10.out.dl.lt
              obtain ⟨wx, hwx⟩ : ∃ y, w10.setCell ⟨b, 10, none⟩ (.bool true) = y := ⟨_, rfl⟩
              have Hx : Hid (OSt b h w wx ⟨ty, s1, runs, short, bd, cr, idxL x, v, n1, n2, true, sec⟩) := Lib.hid (by rw [← hwx]; exact H10.out.set (Nat.le_of_eq HBB.out) hne 10 _ rfl)
              have Swx := Lib.hid hwx
              clear hwx
              go_wp2_with (fail)
              go_region
              all_goals (go_wp2_with (rw [Swx.out]))
              clear d10 z10 hlb ht h1s
              have Hy := Lib.hid (Hx.out.to ((Below.refl wx.heap.size wx).drew))
              obtain ⟨v41, hv41⟩ : ∃ y, hasC lc 41 = y := ⟨_, rfl⟩
              have Nv41 := Lib.hid hv41
              clear hv41
              go_wp2_with (fail)
              have hcall := has_r lc HLc.out 41 wx.drew
              rw [Nslc.out] at hcall
              refine hcall.mono ?_
              clear hcall
              rintro e wb ⟨rfl, rfl⟩
              rw [Nv41.out]
              cases v41
              · go_wp2_with (first | (refine wpList_loadC rfl _ 27 rfl b 27 (delE ⟨ty, s1, runs, short, bd, cr, idxL x, v, n1, n2, true, sec⟩) _ rfl (by rfl) (by rfl) (by rfl) Hy.out.dl ?_) | (refine wpList_storeC rfl _ _ 27 rfl h 27 (delE zeroD) (delE ⟨ty, s1, runs, short, bd, cr, idxL x, v, n1, n2, true, sec⟩).toArray api_info (by rfl) (by rfl) Hy.out.zr rfl (api_one _) ?_))
                refine ret_cell2 (g := h) (e := 27) (xs := (delE ⟨ty, s1, runs, short, bd, cr, idxL x, v, n1, n2, true, sec⟩).toArray.toList) rfl (by rfl) (by rfl) (blk_row Hy.out.zr _) rfl (by rfl) (by rfl) rfl ?_
                have hfin : R = (⟨idxL x, v, n1, n2, true⟩, lc) := by rw [HRI.out]; unfold inner; dsimp only; rw [Nl7.out, Nv44.out, Nn1.out]; simp only [if_true]; rw [Nl9.out, Nl10.out, Nn2.out, Nv115.out]; rw [show takeC l10 115 = lc from by rw [takeC, Nv115.out, if_pos rfl, Nlc.out]]; rw [takeC, Nv41.out]; rfl
                rw [hfin]
                dsimp only
                rw [Nslc.out]
                exact ⟨rfl, row_below Hy.out.bl (by have := HBB.out; have := HHH.out; omega) _⟩
              · have hsp := hasC_split Nv41.out
                obtain ⟨lz, hlz⟩ : ∃ y, lc.tail = y := ⟨_, rfl⟩
                rw [hlz] at hsp
                have Nlz := Lib.hid hlz
                obtain ⟨slz, hslz⟩ : ∃ y, sA lz = y := ⟨_, rfl⟩
                have Nslz := Lib.hid hslz
                have ht : slc.extract 1 slc.size = slz := by rw [← Nslc.out, hsp, ← hslz]; exact sA_tail 41 lz
                have h1s : (1 : Int) ≤ slc.size := by have hq : 0 < slc.size := (by rw [← Nslc.out, hsp]; exact sA_pos 41 lz); omega
                have HLz := Lib.hid (show lz.length ≤ 1000000 by rw [← hlz]; exact len_tail HLc.out)
                clear hsp hlz hslz
                go_wp2_with (first | (refine wpList_loadC rfl _ 27 rfl b 27 (delE ⟨ty, s1, runs, short, bd, cr, idxL x, v, n1, n2, true, sec⟩) _ rfl (by rfl) (by rfl) (by rfl) Hy.out.dl ?_) | (refine wpList_storeC rfl _ _ 27 rfl h 27 (delE zeroD) (delE ⟨ty, s1, runs, short, bd, cr, idxL x, v, n1, n2, true, sec⟩).toArray api_info (by rfl) (by rfl) Hy.out.zr rfl (api_one _) ?_))
                refine ret_cell2 (g := h) (e := 27) (xs := (delE ⟨ty, s1, runs, short, bd, cr, idxL x, v, n1, n2, true, sec⟩).toArray.toList) rfl (by rfl) (by rfl) (blk_row Hy.out.zr _) rfl (by rfl) (by rfl) rfl ?_
                have hfin : R = (⟨idxL x, v, n1, n2, true⟩, lz) := by rw [HRI.out]; unfold inner; dsimp only; rw [Nl7.out, Nv44.out, Nn1.out]; simp only [if_true]; rw [Nl9.out, Nl10.out, Nn2.out, Nv115.out]; rw [show takeC l10 115 = lc from by rw [takeC, Nv115.out, if_pos rfl, Nlc.out]]; rw [takeC, Nv41.out, if_pos rfl, Nlz.out]
                rw [hfin]
                dsimp only
                rw [Nslz.out]
                exact ⟨rfl, row_below Hy.out.bl (by have := HBB.out; have := HHH.out; omega) _⟩
    · have hkl : k < 11 := by omega
      have hget := let_at hkl
      obtain ⟨c, hc⟩ : ∃ c, lettersL.getD k 0 = c := ⟨_, rfl⟩
      rw [hc] at hget
      have hw8 := wrap8 hkl
      obtain ⟨v, hv⟩ : ∃ v, hasC l c = v := ⟨_, rfl⟩
      have HV := Lib.hid hv
      have HSUC := Lib.hid (show howK l (k + 1) = if v = true then (k : Int) else howK l k by rw [howK_succ, hc, hv])
      clear hc
      clear hv
      obtain ⟨q, hq⟩ : ∃ q, howK l k = q := ⟨_, rfl⟩
      rw [hq] at HO HSUC
      clear hq
      go_wp2_with (fail)
      have hcall := has_r l HLL.out c wr
      rw [HS.out] at hcall
      refine hcall.mono ?_
      clear hcall
      rintro e w3 ⟨rfl, rfl⟩
      rw [HV.out]
      cases v
      · go_wp2_with (fail)
        exact ⟨⟨k + 1, by omega, rfl, by rw [HSUC.out]; exact HO.out⟩, by show 11 - (k + 1) < 11 - k; omega⟩
      · have d6 := HO.out.dl.cell 6
        simp only [delE, List.getElem?_cons_succ, List.getElem?_cons_zero] at d6
        have z6 := HO.out.dl.frozen 6
        have hlb := HO.out.dl.lt
        obtain ⟨w4, hw4⟩ : ∃ y, wr.setCell ⟨b, 6, none⟩ (.int .u8 (k : Int)) = y := ⟨_, rfl⟩
        have HO4 : Hid (OSt b h w w4 ⟨ty, s1, runs, short, bd, cr, k, 0, 0, 0, false, sec⟩) := Lib.hid (by rw [← hw4]; exact HO.out.set (Nat.le_of_eq HBB.out) hne 6 _ rfl)
        have Sw4 := Lib.hid hw4
        clear hw4
        go_wp2_with (rw [Sw4.out])
        exact ⟨⟨k + 1, by omega, rfl, by rw [HSUC.out]; exact HO4.out⟩, by show 11 - (k + 1) < 11 - k; omega⟩
end

section
/-! Chapter 7: the reference's reading of a symbol. -/
open Go.RowKit
set_option maxRecDepth 100000
set_option maxHeartbeats 4000000
theorem OSt.drew {b h : Nat} {w wr : World} {d : Del} (H : OSt b h w wr d) : OSt b h w wr.drew d := H.to ((Below.refl wr.heap.size wr).drew)
theorem OSt.row {b h : Nat} {w wr : World} {d : Del} (H : OSt b h w wr d) (hb : w.heap.size ≤ b) (hne : h ≠ b) (d' : Del) : OSt b h w (wr.setRow b (delE d').toArray) d' :=
  ⟨by simpa using blk_row H.dl (delE d').toArray, Blk.row_other H.zr hne _, row_below H.bl hb _⟩
theorem p1_len (l : List UInt8) : (p1 l).2.length ≤ l.length := by unfold p1; split <;> (try split) <;> simp
theorem q2_len (t : Int) (l : List UInt8) : (q2 t l).2.length ≤ l.length := by unfold q2; split <;> (try split) <;> (try split) <;> (try split) <;> simp
theorem p4_len (l : List UInt8) : (p4 l).2.length ≤ l.length := by unfold p4; split <;> (try split) <;> simp
theorem q5_len (l : List UInt8) : (q5 l).2.length ≤ l.length := by
  unfold q5
  split
  · have := rdN_len l.tail; rw [List.length_tail] at this; omega
  · exact Nat.le_refl _
theorem takeC_len (l : List UInt8) (c : UInt8) : (takeC l c).length ≤ l.length := by unfold takeC; split <;> simp
theorem inner_len (l : List UInt8) : (inner l).2.length ≤ l.length := by
  unfold inner
  dsimp only
  have h1 := rdN_len l
  have key : ∀ (s : List UInt8), (takeC (takeC s 115) 41).length ≤ s.length := fun s => Nat.le_trans (takeC_len _ _) (takeC_len _ _)
  split
  · have h2 := rdN_len (rdN l).2.tail
    have h3 := key (rdN (rdN l).2.tail).2
    rw [List.length_tail] at h2
    omega
  · have h3 := key (rdN l).2
    exact Nat.le_trans h3 h1
theorem q7_len (l : List UInt8) (hl : l.length ≤ 1000000) : (q7 l).2.length ≤ 1000000 := by
  unfold q7
  split
  · exact hl
  split
  · simp
  · next c r he =>
    have h1 : r.length + 1 ≤ l.length := by
      have := congrArg List.length he
      rw [List.length_tail, List.length_cons] at this
      omega
    have h2 := rdN_len r
    dsimp only
    split
    · have h3 := inner_len (rdN r).2.tail
      rw [List.length_tail] at h3
      show (inner (rdN r).2.tail).2.length ≤ _
      omega
    · show (rdN r).2.length ≤ _
      omega
attribute [-simp] Tryz.isAgg27 Tryz.sizeOf27
theorem guess7_r (l : List UInt8) (hl : l.length ≤ 1000000) (w : World) : Calls Tryz.prog 90 #[.string (sA l)] w fun e w' => e = .returned (delV (guessR l)) ∧ Below w.heap.size w w' := by
  obtain ⟨R, hR⟩ : ∃ R, guessR l = R := ⟨_, rfl⟩
  rw [hR]
  have HR := Lib.hid hR
  have HL0 := Lib.hid hl
  obtain ⟨s0, hs0⟩ : ∃ y, sA l = y := ⟨_, rfl⟩
  rw [hs0]
  have Ns0 := Lib.hid hs0
  obtain ⟨h, hh⟩ : ∃ h, w.heap.size = h := ⟨_, rfl⟩
  have HHH := Lib.hid hh
  obtain ⟨b, hb⟩ : ∃ b, h + 1 = b := ⟨_, rfl⟩
  have HBB := Lib.hid hb
  have hne : h ≠ b := by omega
  obtain ⟨w1, hw1⟩ : ∃ y, (w.alloc (.cells (delE zeroD).toArray 27)).alloc (.cells (delE ⟨1, 1, 0, 0, 0, false, 0, 0, 0, 0, false, 0⟩).toArray 27) = y := ⟨_, rfl⟩
  have H0 := Lib.hid (show OSt b h w w1 ⟨1, 1, 0, 0, 0, false, 0, 0, 0, 0, false, 0⟩ by
    have hs : (w.alloc (.cells (delE zeroD).toArray 27)).heap.size = b := by rw [World.size_alloc, hh, hb]
    refine ⟨?_, ?_, ?_⟩
    · rw [← hw1, ← hs]; exact Blk.new _ _ (delE ⟨1, 1, 0, 0, 0, false, 0, 0, 0, 0, false, 0⟩)
    · rw [← hw1, ← hh]; exact (Blk.new w 27 (delE zeroD)).to (cur_new _ _)
    · rw [← hw1]; exact cur_two w _ _)
  have SW1 := Lib.hid (show (w.alloc (.cells #[.int .u8 0, .int .u8 0, .int .i64 0, .int .i64 0, .int .i64 0, .bool false, .int .u8 0, .int .i64 0, .int .i64 0, .int .i64 0, .bool false, .int .i64 0] 27)).alloc (.cells (delE ⟨1, 1, 0, 0, 0, false, 0, 0, 0, 0, false, 0⟩).toArray 27) = w1 from hw1)
  have hwb : w.heap.size ≤ b := by omega
  have HWB := Lib.hid hwb
  clear hR hl hs0 hw1 hh hb hwb
  obtain ⟨t1, ht1⟩ : ∃ y, (p1 l).1 = y := ⟨_, rfl⟩
  have Nt1 := Lib.hid ht1
  clear ht1
  obtain ⟨l1, hl1⟩ : ∃ y, (p1 l).2 = y := ⟨_, rfl⟩
  have Nl1 := Lib.hid hl1
  clear hl1
  obtain ⟨c1, hc1⟩ : ∃ y, (if t1 = 2 then (0 : Int) else 1) = y := ⟨_, rfl⟩
  have Nc1 := Lib.hid hc1
  clear hc1
  obtain ⟨c2, hc2⟩ : ∃ y, (q2 t1 l1).1 = y := ⟨_, rfl⟩
  have Nc2 := Lib.hid hc2
  clear hc2
  obtain ⟨l2, hl2⟩ : ∃ y, (q2 t1 l1).2 = y := ⟨_, rfl⟩
  have Nl2 := Lib.hid hl2
  clear hl2
  obtain ⟨n3, hn3⟩ : ∃ y, (rdN l2).1 = y := ⟨_, rfl⟩
  have Nn3 := Lib.hid hn3
  clear hn3
  obtain ⟨l3, hl3⟩ : ∃ y, (rdN l2).2 = y := ⟨_, rfl⟩
  have Nl3 := Lib.hid hl3
  clear hl3
  obtain ⟨b4, hb4⟩ : ∃ y, (p4 l3).1 = y := ⟨_, rfl⟩
  have Nb4 := Lib.hid hb4
  clear hb4
  obtain ⟨l4, hl4⟩ : ∃ y, (p4 l3).2 = y := ⟨_, rfl⟩
  have Nl4 := Lib.hid hl4
  clear hl4
  obtain ⟨n5, hn5⟩ : ∃ y, (q5 l4).1 = y := ⟨_, rfl⟩
  have Nn5 := Lib.hid hn5
  clear hn5
  obtain ⟨l5, hl5⟩ : ∃ y, (q5 l4).2 = y := ⟨_, rfl⟩
  have Nl5 := Lib.hid hl5
  clear hl5
  obtain ⟨x6, hx6⟩ : ∃ y, hasC l5 120 = y := ⟨_, rfl⟩
  have Nx6 := Lib.hid hx6
  clear hx6
  obtain ⟨l6, hl6⟩ : ∃ y, takeC l5 120 = y := ⟨_, rfl⟩
  have Nl6 := Lib.hid hl6
  clear hl6
  obtain ⟨k7, hk7⟩ : ∃ y, (q7 l6).1 = y := ⟨_, rfl⟩
  have Nk7 := Lib.hid hk7
  clear hk7
  obtain ⟨l7, hl7⟩ : ∃ y, (q7 l6).2 = y := ⟨_, rfl⟩
  have Nl7 := Lib.hid hl7
  clear hl7
  obtain ⟨n8, hn8⟩ : ∃ y, q8 l7 = y := ⟨_, rfl⟩
  have Nn8 := Lib.hid hn8
  clear hn8
  obtain ⟨s1, hs1⟩ : ∃ y, sA l1 = y := ⟨_, rfl⟩
  have Ns1 := Lib.hid hs1
  clear hs1
  obtain ⟨s2, hs2⟩ : ∃ y, sA l2 = y := ⟨_, rfl⟩
  have Ns2 := Lib.hid hs2
  clear hs2
  obtain ⟨s3, hs3⟩ : ∃ y, sA l3 = y := ⟨_, rfl⟩
  have Ns3 := Lib.hid hs3
  clear hs3
  obtain ⟨s4, hs4⟩ : ∃ y, sA l4 = y := ⟨_, rfl⟩
  have Ns4 := Lib.hid hs4
  clear hs4
  obtain ⟨s5, hs5⟩ : ∃ y, sA l5 = y := ⟨_, rfl⟩
  have Ns5 := Lib.hid hs5
  clear hs5
  obtain ⟨s6, hs6⟩ : ∃ y, sA l6 = y := ⟨_, rfl⟩
  have Ns6 := Lib.hid hs6
  clear hs6
  obtain ⟨s7, hs7⟩ : ∃ y, sA l7 = y := ⟨_, rfl⟩
  have Ns7 := Lib.hid hs7
  clear hs7
  have HL1 := Lib.hid (show l1.length ≤ 1000000 by have := p1_len l; rw [Nl1.out] at this; have := HL0.out; omega)
  have HL2 := Lib.hid (show l2.length ≤ 1000000 by have := q2_len t1 l1; rw [Nl2.out] at this; have := HL1.out; omega)
  have HL3 := Lib.hid (show l3.length ≤ 1000000 by have := rdN_len l2; rw [Nl3.out] at this; have := HL2.out; omega)
  have HL4 := Lib.hid (show l4.length ≤ 1000000 by have := p4_len l3; rw [Nl4.out] at this; have := HL3.out; omega)
  have HL5 := Lib.hid (show l5.length ≤ 1000000 by have := q5_len l4; rw [Nl5.out] at this; have := HL4.out; omega)
  have HL6 := Lib.hid (show l6.length ≤ 1000000 by have := takeC_len l5 120; rw [Nl6.out] at this; have := HL5.out; omega)
  have HFIN := Lib.hid (show R = ⟨t1, c2, n3, n5, b4, x6, k7.how, k7.vic, k7.fd, k7.sd, k7.sub, n8⟩ by
    rw [← HR.out]; unfold guessR; dsimp only
    rw [Nt1.out, Nl1.out, Nc2.out, Nl2.out, Nn3.out, Nl3.out, Nb4.out, Nl4.out, Nn5.out, Nl5.out, Nx6.out, Nl6.out, Nk7.out, Nl7.out, Nn8.out])
  clear HR
  go_enter Tryz.func90, Tryz.ntmps90
  go_upto_block 0 with (refine wpList_storeNew rfl _ _ 27 rfl _ (delE ⟨1, 1, 0, 0, 0, false, 0, 0, 0, 0, false, 0⟩).toArray api_info (by rw [World.size_alloc]; rfl) (by rfl) rfl (api_one _) ?_; rw [SW1.out, HHH.out])
  rw [HBB.out]
  dsimp only [Act.put]
  obtain ⟨v119, hv119⟩ : ∃ y, hasC l 119 = y := ⟨_, rfl⟩
  have Nv119 := Lib.hid hv119
  clear hv119
  obtain ⟨v110, hv110⟩ : ∃ y, hasC l 110 = y := ⟨_, rfl⟩
  have Nv110 := Lib.hid hv110
  clear hv110
  go_upto_block 0 with (fail)
  go_cut [0] (fun v wx => v = .string s1 ∧ OSt b h w wx ⟨t1, c1, 0, 0, 0, false, 0, 0, 0, 0, false, 0⟩)
  case first =>
    go_wp2_with (fail)
    have hcall := has_r l HL0.out 119 w1
    rw [Ns0.out] at hcall
    refine hcall.mono ?_
    clear hcall
    rintro e wz ⟨rfl, rfl⟩
    rw [Nv119.out]
    cases v119 with
    | true =>
      have hsp := hasC_split Nv119.out
      obtain ⟨lt119, hlt119⟩ : ∃ y, l.tail = y := ⟨_, rfl⟩
      rw [hlt119] at hsp
      have Nlt119 := Lib.hid hlt119
      obtain ⟨st119, hst119⟩ : ∃ y, sA lt119 = y := ⟨_, rfl⟩
      have Nst119 := Lib.hid hst119
      have ht : s0.extract 1 s0.size = st119 := by rw [← Ns0.out, hsp, ← hst119]; exact sA_tail 119 lt119
      have h1s : (1 : Int) ≤ s0.size := by have hq : 0 < s0.size := (by rw [← Ns0.out, hsp]; exact sA_pos 119 lt119); omega
      have HLt119 := Lib.hid (show lt119.length ≤ 1000000 by rw [← hlt119]; exact len_tail HL0.out)
      clear hsp hlt119 hst119
      have hcb := H0.out.dl.cell
      have hfb := H0.out.dl.frozen
      have d0 := hcb 0
      have z0 := hfb 0
      have d1 := hcb 1
      have z1 := hfb 1
      simp only [delE, List.getElem?_cons_succ, List.getElem?_cons_zero] at d0 d1
      clear hcb hfb
      have hlb := H0.out.dl.lt
      go_wp2_with (fail)
      go_region
      all_goals (go_wp2_with (fail))
      all_goals go_meet
      all_goals
        have e0 : p1 l = (2, l.tail) := by unfold p1; rw [Nv119.out]; rfl
        obtain rfl : 2 = t1 := by rw [← Nt1.out, e0]
        obtain rfl : lt119 = l1 := by rw [← Nl1.out, e0, Nlt119.out]
        obtain rfl : 0 = c1 := by rw [← Nc1.out]; rfl
        obtain rfl : st119 = s1 := by rw [← Nst119.out, ← Ns1.out]
        first | exact ⟨rfl, (((((H0.out).set (d' := ⟨2, 1, 0, 0, 0, false, 0, 0, 0, 0, false, 0⟩) HWB.out hne 0 (.int .u8 2) rfl)).set (d' := ⟨2, 0, 0, 0, 0, false, 0, 0, 0, 0, false, 0⟩) HWB.out hne 1 (.int .u8 0) rfl)).drew⟩ | exact ⟨rfl, ((((H0.out.drew).set (d' := ⟨2, 1, 0, 0, 0, false, 0, 0, 0, 0, false, 0⟩) HWB.out hne 0 (.int .u8 2) rfl)).set (d' := ⟨2, 0, 0, 0, 0, false, 0, 0, 0, 0, false, 0⟩) HWB.out hne 1 (.int .u8 0) rfl)⟩ | exact ⟨rfl, (((((H0.out).set (d' := ⟨1, 0, 0, 0, 0, false, 0, 0, 0, 0, false, 0⟩) HWB.out hne 1 (.int .u8 0) rfl)).set (d' := ⟨2, 0, 0, 0, 0, false, 0, 0, 0, 0, false, 0⟩) HWB.out hne 0 (.int .u8 2) rfl)).drew⟩ | exact ⟨rfl, ((((H0.out.drew).set (d' := ⟨1, 0, 0, 0, 0, false, 0, 0, 0, 0, false, 0⟩) HWB.out hne 1 (.int .u8 0) rfl)).set (d' := ⟨2, 0, 0, 0, 0, false, 0, 0, 0, 0, false, 0⟩) HWB.out hne 0 (.int .u8 2) rfl)⟩
    | false =>
      go_wp2_with (fail)
      have hcall := has_r l HL0.out 110 w1
      rw [Ns0.out] at hcall
      refine hcall.mono ?_
      clear hcall
      rintro e wz ⟨rfl, rfl⟩
      rw [Nv110.out]
      cases v110 with
      | true =>
        have hsp := hasC_split Nv110.out
        obtain ⟨lt110, hlt110⟩ : ∃ y, l.tail = y := ⟨_, rfl⟩
        rw [hlt110] at hsp
        have Nlt110 := Lib.hid hlt110
        obtain ⟨st110, hst110⟩ : ∃ y, sA lt110 = y := ⟨_, rfl⟩
        have Nst110 := Lib.hid hst110
        have ht : s0.extract 1 s0.size = st110 := by rw [← Ns0.out, hsp, ← hst110]; exact sA_tail 110 lt110
        have h1s : (1 : Int) ≤ s0.size := by have hq : 0 < s0.size := (by rw [← Ns0.out, hsp]; exact sA_pos 110 lt110); omega
        have HLt110 := Lib.hid (show lt110.length ≤ 1000000 by rw [← hlt110]; exact len_tail HL0.out)
        clear hsp hlt110 hst110
        have hcb := H0.out.dl.cell
        have hfb := H0.out.dl.frozen
        have d0 := hcb 0
        have z0 := hfb 0
        simp only [delE, List.getElem?_cons_succ, List.getElem?_cons_zero] at d0
        clear hcb hfb
        have hlb := H0.out.dl.lt
        go_wp2_with (fail)
        go_region
        all_goals (go_wp2_with (fail))
        all_goals go_meet
        all_goals
          have e0 : p1 l = (3, l.tail) := by unfold p1; rw [Nv119.out, Nv110.out]; rfl
          obtain rfl : 3 = t1 := by rw [← Nt1.out, e0]
          obtain rfl : lt110 = l1 := by rw [← Nl1.out, e0, Nlt110.out]
          obtain rfl : 1 = c1 := by rw [← Nc1.out]; rfl
          obtain rfl : st110 = s1 := by rw [← Nst110.out, ← Ns1.out]
          first | exact ⟨rfl, (((H0.out).set (d' := ⟨3, 1, 0, 0, 0, false, 0, 0, 0, 0, false, 0⟩) HWB.out hne 0 (.int .u8 3) rfl)).drew⟩ | exact ⟨rfl, ((H0.out.drew).set (d' := ⟨3, 1, 0, 0, 0, false, 0, 0, 0, 0, false, 0⟩) HWB.out hne 0 (.int .u8 3) rfl)⟩
      | false =>
        go_wp2_with (fail)
        go_meet
        case rel =>
          have e0 : p1 l = (1, l) := by unfold p1; rw [Nv119.out, Nv110.out]; rfl
          obtain rfl : 1 = t1 := by rw [← Nt1.out, e0]
          obtain rfl : l = l1 := by rw [← Nl1.out, e0]
          obtain rfl : 1 = c1 := by rw [← Nc1.out]; rfl
          obtain rfl : s0 = s1 := by rw [← Ns0.out, ← Ns1.out]
          exact ⟨rfl, H0.out⟩
  case rest =>
  obtain ⟨rfl, ho⟩ := hcut
  have H1 := Lib.hid ho
  clear ho
  rename World => wA
  obtain ⟨v46, hv46⟩ : ∃ y, hasC l1 46 = y := ⟨_, rfl⟩
  have Nv46 := Lib.hid hv46
  clear hv46
  obtain ⟨v98, hv98⟩ : ∃ y, hasC l1 98 = y := ⟨_, rfl⟩
  have Nv98 := Lib.hid hv98
  clear hv98
  obtain ⟨v108, hv108⟩ : ∃ y, hasC l1 108 = y := ⟨_, rfl⟩
  have Nv108 := Lib.hid hv108
  clear hv108
  obtain ⟨v111, hv111⟩ : ∃ y, hasC l1 111 = y := ⟨_, rfl⟩
  have Nv111 := Lib.hid hv111
  clear hv111
  go_upto_block 1 with (fail)
  go_cut [0] (fun v wx => v = .string s2 ∧ OSt b h w wx ⟨t1, c2, 0, 0, 0, false, 0, 0, 0, 0, false, 0⟩)
  case first =>
    go_wp2_with (fail)
    have hcall := has_r l1 HL1.out 46 wA
    rw [Ns1.out] at hcall
    refine hcall.mono ?_
    clear hcall
    rintro e wz ⟨rfl, rfl⟩
    rw [Nv46.out]
    cases v46 with
    | true =>
      have hsp := hasC_split Nv46.out
      obtain ⟨lt46, hlt46⟩ : ∃ y, l1.tail = y := ⟨_, rfl⟩
      rw [hlt46] at hsp
      have Nlt46 := Lib.hid hlt46
      obtain ⟨st46, hst46⟩ : ∃ y, sA lt46 = y := ⟨_, rfl⟩
      have Nst46 := Lib.hid hst46
      have ht : s1.extract 1 s1.size = st46 := by rw [← Ns1.out, hsp, ← hst46]; exact sA_tail 46 lt46
      have h1s : (1 : Int) ≤ s1.size := by have hq : 0 < s1.size := (by rw [← Ns1.out, hsp]; exact sA_pos 46 lt46); omega
      have HLt46 := Lib.hid (show lt46.length ≤ 1000000 by rw [← hlt46]; exact len_tail HL1.out)
      clear hsp hlt46 hst46
      have hcb := H1.out.dl.cell
      have hfb := H1.out.dl.frozen
      have d1 := hcb 1
      have z1 := hfb 1
      simp only [delE, List.getElem?_cons_succ, List.getElem?_cons_zero] at d1
      clear hcb hfb
      have hlb := H1.out.dl.lt
      go_wp2_with (fail)
      go_region
      all_goals (go_wp2_with (fail))
      all_goals go_meet
      all_goals
        have e0 : q2 t1 l1 = (0, l1.tail) := by unfold q2; rw [Nv46.out]; rfl
        obtain rfl : 0 = c2 := by rw [← Nc2.out, e0]
        obtain rfl : lt46 = l2 := by rw [← Nl2.out, e0, Nlt46.out]
        obtain rfl : st46 = s2 := by rw [← Nst46.out, ← Ns2.out]
        first | exact ⟨rfl, (((H1.out).set (d' := ⟨t1, 0, 0, 0, 0, false, 0, 0, 0, 0, false, 0⟩) HWB.out hne 1 (.int .u8 0) rfl)).drew⟩ | exact ⟨rfl, ((H1.out.drew).set (d' := ⟨t1, 0, 0, 0, 0, false, 0, 0, 0, 0, false, 0⟩) HWB.out hne 1 (.int .u8 0) rfl)⟩
    | false =>
      go_wp2_with (fail)
      have hcall := has_r l1 HL1.out 98 wA
      rw [Ns1.out] at hcall
      refine hcall.mono ?_
      clear hcall
      rintro e wz ⟨rfl, rfl⟩
      rw [Nv98.out]
      cases v98 with
      | true =>
        have hsp := hasC_split Nv98.out
        obtain ⟨lt98, hlt98⟩ : ∃ y, l1.tail = y := ⟨_, rfl⟩
        rw [hlt98] at hsp
        have Nlt98 := Lib.hid hlt98
        obtain ⟨st98, hst98⟩ : ∃ y, sA lt98 = y := ⟨_, rfl⟩
        have Nst98 := Lib.hid hst98
        have ht : s1.extract 1 s1.size = st98 := by rw [← Ns1.out, hsp, ← hst98]; exact sA_tail 98 lt98
        have h1s : (1 : Int) ≤ s1.size := by have hq : 0 < s1.size := (by rw [← Ns1.out, hsp]; exact sA_pos 98 lt98); omega
        have HLt98 := Lib.hid (show lt98.length ≤ 1000000 by rw [← hlt98]; exact len_tail HL1.out)
        clear hsp hlt98 hst98
        have hcb := H1.out.dl.cell
        have hfb := H1.out.dl.frozen
        have d1 := hcb 1
        have z1 := hfb 1
        simp only [delE, List.getElem?_cons_succ, List.getElem?_cons_zero] at d1
        clear hcb hfb
        have hlb := H1.out.dl.lt
        go_wp2_with (fail)
        go_region
        all_goals (go_wp2_with (fail))
        all_goals go_meet
        all_goals
          have e0 : q2 t1 l1 = (2, l1.tail) := by unfold q2; rw [Nv46.out, Nv98.out]; rfl
          obtain rfl : 2 = c2 := by rw [← Nc2.out, e0]
          obtain rfl : lt98 = l2 := by rw [← Nl2.out, e0, Nlt98.out]
          obtain rfl : st98 = s2 := by rw [← Nst98.out, ← Ns2.out]
          first | exact ⟨rfl, (((H1.out).set (d' := ⟨t1, 2, 0, 0, 0, false, 0, 0, 0, 0, false, 0⟩) HWB.out hne 1 (.int .u8 2) rfl)).drew⟩ | exact ⟨rfl, ((H1.out.drew).set (d' := ⟨t1, 2, 0, 0, 0, false, 0, 0, 0, 0, false, 0⟩) HWB.out hne 1 (.int .u8 2) rfl)⟩
      | false =>
        go_wp2_with (fail)
        have hcall := has_r l1 HL1.out 108 wA
        rw [Ns1.out] at hcall
        refine hcall.mono ?_
        clear hcall
        rintro e wz ⟨rfl, rfl⟩
        rw [Nv108.out]
        cases v108 with
        | true =>
          have hsp := hasC_split Nv108.out
          obtain ⟨lt108, hlt108⟩ : ∃ y, l1.tail = y := ⟨_, rfl⟩
          rw [hlt108] at hsp
          have Nlt108 := Lib.hid hlt108
          obtain ⟨st108, hst108⟩ : ∃ y, sA lt108 = y := ⟨_, rfl⟩
          have Nst108 := Lib.hid hst108
          have ht : s1.extract 1 s1.size = st108 := by rw [← Ns1.out, hsp, ← hst108]; exact sA_tail 108 lt108
          have h1s : (1 : Int) ≤ s1.size := by have hq : 0 < s1.size := (by rw [← Ns1.out, hsp]; exact sA_pos 108 lt108); omega
          have HLt108 := Lib.hid (show lt108.length ≤ 1000000 by rw [← hlt108]; exact len_tail HL1.out)
          clear hsp hlt108 hst108
          have hcb := H1.out.dl.cell
          have hfb := H1.out.dl.frozen
          have d1 := hcb 1
          have z1 := hfb 1
          simp only [delE, List.getElem?_cons_succ, List.getElem?_cons_zero] at d1
          clear hcb hfb
          have hlb := H1.out.dl.lt
          go_wp2_with (fail)
          go_region
          all_goals (go_wp2_with (fail))
          all_goals go_meet
          all_goals
            have e0 : q2 t1 l1 = (3, l1.tail) := by unfold q2; rw [Nv46.out, Nv98.out, Nv108.out]; rfl
            obtain rfl : 3 = c2 := by rw [← Nc2.out, e0]
            obtain rfl : lt108 = l2 := by rw [← Nl2.out, e0, Nlt108.out]
            obtain rfl : st108 = s2 := by rw [← Nst108.out, ← Ns2.out]
            first | exact ⟨rfl, (((H1.out).set (d' := ⟨t1, 3, 0, 0, 0, false, 0, 0, 0, 0, false, 0⟩) HWB.out hne 1 (.int .u8 3) rfl)).drew⟩ | exact ⟨rfl, ((H1.out.drew).set (d' := ⟨t1, 3, 0, 0, 0, false, 0, 0, 0, 0, false, 0⟩) HWB.out hne 1 (.int .u8 3) rfl)⟩
        | false =>
          go_wp2_with (fail)
          have hcall := has_r l1 HL1.out 111 wA
          rw [Ns1.out] at hcall
          refine hcall.mono ?_
          clear hcall
          rintro e wz ⟨rfl, rfl⟩
          rw [Nv111.out]
          cases v111 with
          | true =>
            have hsp := hasC_split Nv111.out
            obtain ⟨lt111, hlt111⟩ : ∃ y, l1.tail = y := ⟨_, rfl⟩
            rw [hlt111] at hsp
            have Nlt111 := Lib.hid hlt111
            obtain ⟨st111, hst111⟩ : ∃ y, sA lt111 = y := ⟨_, rfl⟩
            have Nst111 := Lib.hid hst111
            have ht : s1.extract 1 s1.size = st111 := by rw [← Ns1.out, hsp, ← hst111]; exact sA_tail 111 lt111
            have h1s : (1 : Int) ≤ s1.size := by have hq : 0 < s1.size := (by rw [← Ns1.out, hsp]; exact sA_pos 111 lt111); omega
            have HLt111 := Lib.hid (show lt111.length ≤ 1000000 by rw [← hlt111]; exact len_tail HL1.out)
            clear hsp hlt111 hst111
            have hcb := H1.out.dl.cell
            have hfb := H1.out.dl.frozen
            have d1 := hcb 1
            have z1 := hfb 1
            simp only [delE, List.getElem?_cons_succ, List.getElem?_cons_zero] at d1
            clear hcb hfb
            have hlb := H1.out.dl.lt
            go_wp2_with (fail)
            go_region
            all_goals (go_wp2_with (fail))
            all_goals go_meet
            all_goals
              have e0 : q2 t1 l1 = (1, l1.tail) := by unfold q2; rw [Nv46.out, Nv98.out, Nv108.out, Nv111.out]; rfl
              obtain rfl : 1 = c2 := by rw [← Nc2.out, e0]
              obtain rfl : lt111 = l2 := by rw [← Nl2.out, e0, Nlt111.out]
              obtain rfl : st111 = s2 := by rw [← Nst111.out, ← Ns2.out]
              first | exact ⟨rfl, (((H1.out).set (d' := ⟨t1, 1, 0, 0, 0, false, 0, 0, 0, 0, false, 0⟩) HWB.out hne 1 (.int .u8 1) rfl)).drew⟩ | exact ⟨rfl, ((H1.out.drew).set (d' := ⟨t1, 1, 0, 0, 0, false, 0, 0, 0, 0, false, 0⟩) HWB.out hne 1 (.int .u8 1) rfl)⟩
          | false =>
            go_wp2_with (fail)
            go_meet
            case rel =>
              have e0 : q2 t1 l1 = (c1, l1) := by unfold q2; rw [Nv46.out, Nv98.out, Nv108.out, Nv111.out, Nc1.out]; rfl
              obtain rfl : c1 = c2 := by rw [← Nc2.out, e0]
              obtain rfl : l1 = l2 := by rw [← Nl2.out, e0]
              obtain rfl : s1 = s2 := by rw [← Ns1.out, ← Ns2.out]
              exact ⟨rfl, H1.out⟩
  case rest =>
  obtain ⟨rfl, ho⟩ := hcut
  have H2 := Lib.hid ho
  clear ho
  rename World => wB
  go_wp2_with (fail)
  have hcall := number7_r l2 HL2.out wB
  rw [Ns2.out] at hcall
  refine hcall.mono ?_
  clear hcall
  rintro e w3 ⟨rfl, hb3⟩
  have H3a := Lib.hid (H2.out.to hb3)
  clear hb3
  rw [Nn3.out, Nl3.out, Ns3.out]
  have hcb := H3a.out.dl.cell
  have hfb := H3a.out.dl.frozen
  have d2 := hcb 2
  have z2 := hfb 2
  simp only [delE, List.getElem?_cons_succ, List.getElem?_cons_zero] at d2
  clear hcb hfb
  have hlb := H3a.out.dl.lt
  obtain ⟨w3s, hw3s⟩ : ∃ y, w3.setCell ⟨b, 2, none⟩ (.int .i64 n3) = y := ⟨_, rfl⟩
  have H3 := Lib.hid (show OSt b h w w3s ⟨t1, c2, n3, 0, 0, false, 0, 0, 0, 0, false, 0⟩ by rw [← hw3s]; exact H3a.out.set HWB.out hne 2 _ rfl)
  have Sw3s := Lib.hid hw3s
  clear hw3s
  go_upto_block 2 with (rw [Sw3s.out])
  clear d2 z2 hlb
  obtain ⟨v70, hv70⟩ : ∃ y, hasC l3 70 = y := ⟨_, rfl⟩
  have Nv70 := Lib.hid hv70
  clear hv70
  obtain ⟨v83, hv83⟩ : ∃ y, hasC l3 83 = y := ⟨_, rfl⟩
  have Nv83 := Lib.hid hv83
  clear hv83
  go_upto_block 2 with (fail)
  go_cut [0] (fun v wx => v = .string s4 ∧ OSt b h w wx ⟨t1, c2, n3, 0, b4, false, 0, 0, 0, 0, false, 0⟩)
  case first =>
    go_wp2_with (fail)
    have hcall := has_r l3 HL3.out 70 w3s
    rw [Ns3.out] at hcall
    refine hcall.mono ?_
    clear hcall
    rintro e wz ⟨rfl, rfl⟩
    rw [Nv70.out]
    cases v70 with
    | true =>
      have hsp := hasC_split Nv70.out
      obtain ⟨lt70, hlt70⟩ : ∃ y, l3.tail = y := ⟨_, rfl⟩
      rw [hlt70] at hsp
      have Nlt70 := Lib.hid hlt70
      obtain ⟨st70, hst70⟩ : ∃ y, sA lt70 = y := ⟨_, rfl⟩
      have Nst70 := Lib.hid hst70
      have ht : s3.extract 1 s3.size = st70 := by rw [← Ns3.out, hsp, ← hst70]; exact sA_tail 70 lt70
      have h1s : (1 : Int) ≤ s3.size := by have hq : 0 < s3.size := (by rw [← Ns3.out, hsp]; exact sA_pos 70 lt70); omega
      have HLt70 := Lib.hid (show lt70.length ≤ 1000000 by rw [← hlt70]; exact len_tail HL3.out)
      clear hsp hlt70 hst70
      have hcb := H3.out.dl.cell
      have hfb := H3.out.dl.frozen
      have d4 := hcb 4
      have z4 := hfb 4
      simp only [delE, List.getElem?_cons_succ, List.getElem?_cons_zero] at d4
      clear hcb hfb
      have hlb := H3.out.dl.lt
      go_wp2_with (fail)
      go_region
      all_goals (go_wp2_with (fail))
      all_goals go_meet
      all_goals
        have e0 : p4 l3 = (4, l3.tail) := by unfold p4; rw [Nv70.out]; rfl
        obtain rfl : 4 = b4 := by rw [← Nb4.out, e0]
        obtain rfl : lt70 = l4 := by rw [← Nl4.out, e0, Nlt70.out]
        obtain rfl : st70 = s4 := by rw [← Nst70.out, ← Ns4.out]
        first | exact ⟨rfl, (((H3.out).set (d' := ⟨t1, c2, n3, 0, 4, false, 0, 0, 0, 0, false, 0⟩) HWB.out hne 4 (.int .i64 4) rfl)).drew⟩ | exact ⟨rfl, ((H3.out.drew).set (d' := ⟨t1, c2, n3, 0, 4, false, 0, 0, 0, 0, false, 0⟩) HWB.out hne 4 (.int .i64 4) rfl)⟩
    | false =>
      go_wp2_with (fail)
      have hcall := has_r l3 HL3.out 83 w3s
      rw [Ns3.out] at hcall
      refine hcall.mono ?_
      clear hcall
      rintro e wz ⟨rfl, rfl⟩
      rw [Nv83.out]
      cases v83 with
      | true =>
        have hsp := hasC_split Nv83.out
        obtain ⟨lt83, hlt83⟩ : ∃ y, l3.tail = y := ⟨_, rfl⟩
        rw [hlt83] at hsp
        have Nlt83 := Lib.hid hlt83
        obtain ⟨st83, hst83⟩ : ∃ y, sA lt83 = y := ⟨_, rfl⟩
        have Nst83 := Lib.hid hst83
        have ht : s3.extract 1 s3.size = st83 := by rw [← Ns3.out, hsp, ← hst83]; exact sA_tail 83 lt83
        have h1s : (1 : Int) ≤ s3.size := by have hq : 0 < s3.size := (by rw [← Ns3.out, hsp]; exact sA_pos 83 lt83); omega
        have HLt83 := Lib.hid (show lt83.length ≤ 1000000 by rw [← hlt83]; exact len_tail HL3.out)
        clear hsp hlt83 hst83
        have hcb := H3.out.dl.cell
        have hfb := H3.out.dl.frozen
        have d4 := hcb 4
        have z4 := hfb 4
        simp only [delE, List.getElem?_cons_succ, List.getElem?_cons_zero] at d4
        clear hcb hfb
        have hlb := H3.out.dl.lt
        go_wp2_with (fail)
        go_region
        all_goals (go_wp2_with (fail))
        all_goals go_meet
        all_goals
          have e0 : p4 l3 = (6, l3.tail) := by unfold p4; rw [Nv70.out, Nv83.out]; rfl
          obtain rfl : 6 = b4 := by rw [← Nb4.out, e0]
          obtain rfl : lt83 = l4 := by rw [← Nl4.out, e0, Nlt83.out]
          obtain rfl : st83 = s4 := by rw [← Nst83.out, ← Ns4.out]
          first | exact ⟨rfl, (((H3.out).set (d' := ⟨t1, c2, n3, 0, 6, false, 0, 0, 0, 0, false, 0⟩) HWB.out hne 4 (.int .i64 6) rfl)).drew⟩ | exact ⟨rfl, ((H3.out.drew).set (d' := ⟨t1, c2, n3, 0, 6, false, 0, 0, 0, 0, false, 0⟩) HWB.out hne 4 (.int .i64 6) rfl)⟩
      | false =>
        go_wp2_with (fail)
        go_meet
        case rel =>
          have e0 : p4 l3 = (0, l3) := by unfold p4; rw [Nv70.out, Nv83.out]; rfl
          obtain rfl : 0 = b4 := by rw [← Nb4.out, e0]
          obtain rfl : l3 = l4 := by rw [← Nl4.out, e0]
          obtain rfl : s3 = s4 := by rw [← Ns3.out, ← Ns4.out]
          exact ⟨rfl, H3.out⟩
  case rest =>
  obtain ⟨rfl, ho⟩ := hcut
  have H4 := Lib.hid ho
  clear ho
  rename World => wD
  obtain ⟨v45, hv45⟩ : ∃ y, hasC l4 45 = y := ⟨_, rfl⟩
  have Nv45 := Lib.hid hv45
  clear hv45
  go_wp2_with (fail)
  have hcall := has_r l4 HL4.out 45 wD
  rw [Ns4.out] at hcall
  refine hcall.mono ?_
  clear hcall
  rintro e wz ⟨rfl, rfl⟩
  rw [Nv45.out]
  go_upto_if 61 with (fail)
  go_cut [0] (fun v wx => v = .string s5 ∧ OSt b h w wx ⟨t1, c2, n3, n5, b4, false, 0, 0, 0, 0, false, 0⟩)
  case first =>
    cases v45 with
    | true =>
      have hsp := hasC_split Nv45.out
      obtain ⟨lt45, hlt45⟩ : ∃ y, l4.tail = y := ⟨_, rfl⟩
      rw [hlt45] at hsp
      have Nlt45 := Lib.hid hlt45
      obtain ⟨st45, hst45⟩ : ∃ y, sA lt45 = y := ⟨_, rfl⟩
      have Nst45 := Lib.hid hst45
      have ht : s4.extract 1 s4.size = st45 := by rw [← Ns4.out, hsp, ← hst45]; exact sA_tail 45 lt45
      have h1s : (1 : Int) ≤ s4.size := by have hq : 0 < s4.size := (by rw [← Ns4.out, hsp]; exact sA_pos 45 lt45); omega
      have HLt45 := Lib.hid (show lt45.length ≤ 1000000 by rw [← hlt45]; exact len_tail HL4.out)
      clear hsp hlt45 hst45
      have e0 : q5 l4 = rdN lt45 := by unfold q5; rw [Nv45.out, if_pos rfl, Nlt45.out]
      have HE1 := Lib.hid (show (rdN lt45).1 = n5 by rw [← e0]; exact Nn5.out)
      have HE2 := Lib.hid (show sA (rdN lt45).2 = s5 by rw [← e0, Nl5.out]; exact Ns5.out)
      clear e0
      go_wp2_with (fail)
      have hcall := number7_r lt45 HLt45.out wD
      rw [Nst45.out] at hcall
      refine hcall.mono ?_
      clear hcall
      rintro e w5 ⟨rfl, hb3⟩
      have H5a := Lib.hid (H4.out.to hb3)
      clear hb3
      rw [HE1.out, HE2.out]
      have hcb := H5a.out.dl.cell
      have hfb := H5a.out.dl.frozen
      have d3 := hcb 3
      have z3 := hfb 3
      simp only [delE, List.getElem?_cons_succ, List.getElem?_cons_zero] at d3
      clear hcb hfb
      have hlb := H5a.out.dl.lt
      obtain ⟨w5s, hw5s⟩ : ∃ y, w5.setCell ⟨b, 3, none⟩ (.int .i64 n5) = y := ⟨_, rfl⟩
      have H5s := Lib.hid (show OSt b h w w5s ⟨t1, c2, n3, n5, b4, false, 0, 0, 0, 0, false, 0⟩ by rw [← hw5s]; exact H5a.out.set HWB.out hne 3 _ rfl)
      have Sw5s := Lib.hid hw5s
      clear hw5s
      go_wp2_with (rw [Sw5s.out])
      go_meet
      case rel => exact ⟨rfl, H5s.out⟩
    | false =>
      have e0 : q5 l4 = (0, l4) := by unfold q5; rw [Nv45.out]; rfl
      have e1 : n5 = 0 := by rw [← Nn5.out, e0]
      have e2 : s5 = s4 := by rw [← Ns5.out, ← Ns4.out, ← Nl5.out, e0]
      have HE := Lib.hid (And.intro e1 e2)
      clear e0 e1 e2
      go_wp2_with (fail)
      go_meet
      case rel => rw [HE.out.1, HE.out.2]; exact ⟨rfl, H4.out⟩
  case rest =>
  obtain ⟨rfl, ho⟩ := hcut
  have H5 := Lib.hid ho
  clear ho
  rename World => wE
  go_wp2_with (fail)
  have hcall := has_r l5 HL5.out 120 wE
  rw [Ns5.out] at hcall
  refine hcall.mono ?_
  clear hcall
  rintro e wz ⟨rfl, rfl⟩
  rw [Nx6.out]
  go_upto_if 70 with (fail)
  go_cut [0] (fun v wx => v = .string s6 ∧ OSt b h w wx ⟨t1, c2, n3, n5, b4, x6, 0, 0, 0, 0, false, 0⟩)
  case first =>
    cases x6 with
    | true =>
      have hsp := hasC_split Nx6.out
      obtain ⟨lt120, hlt120⟩ : ∃ y, l5.tail = y := ⟨_, rfl⟩
      rw [hlt120] at hsp
      have Nlt120 := Lib.hid hlt120
      obtain ⟨st120, hst120⟩ : ∃ y, sA lt120 = y := ⟨_, rfl⟩
      have Nst120 := Lib.hid hst120
      have ht : s5.extract 1 s5.size = st120 := by rw [← Ns5.out, hsp, ← hst120]; exact sA_tail 120 lt120
      have h1s : (1 : Int) ≤ s5.size := by have hq : 0 < s5.size := (by rw [← Ns5.out, hsp]; exact sA_pos 120 lt120); omega
      have HLt120 := Lib.hid (show lt120.length ≤ 1000000 by rw [← hlt120]; exact len_tail HL5.out)
      clear hsp hlt120 hst120
      have hcb := H5.out.dl.cell
      have hfb := H5.out.dl.frozen
      have d5 := hcb 5
      have z5 := hfb 5
      simp only [delE, List.getElem?_cons_succ, List.getElem?_cons_zero] at d5
      clear hcb hfb
      have hlb := H5.out.dl.lt
      go_wp2_with (fail)
      go_region
      all_goals (go_wp2_with (fail))
      all_goals go_meet
      all_goals
        have e1 : s6 = st120 := by rw [← Ns6.out, ← Nst120.out, ← Nl6.out, takeC, Nx6.out, if_pos rfl, Nlt120.out]
        rw [e1]
        first | exact ⟨rfl, (H5.out.set (d' := ⟨t1, c2, n3, n5, b4, true, 0, 0, 0, 0, false, 0⟩) HWB.out hne 5 (.bool true) rfl).drew⟩ | exact ⟨rfl, H5.out.drew.set (d' := ⟨t1, c2, n3, n5, b4, true, 0, 0, 0, 0, false, 0⟩) HWB.out hne 5 (.bool true) rfl⟩
    | false =>
      have HE := Lib.hid (show s6 = s5 by rw [← Ns6.out, ← Ns5.out, ← Nl6.out, takeC, Nx6.out]; rfl)
      go_wp2_with (fail)
      go_meet
      case rel => rw [HE.out]; exact ⟨rfl, H5.out⟩
  case rest =>
  obtain ⟨rfl, ho⟩ := hcut
  have H6 := Lib.hid ho
  clear ho
  rename World => wF
  obtain ⟨v47, hv47⟩ : ∃ y, hasC l6 47 = y := ⟨_, rfl⟩
  have Nv47 := Lib.hid hv47
  clear hv47
  go_wp2_with (fail)
  have hcall := has_r l6 HL6.out 47 wF
  rw [Ns6.out] at hcall
  refine hcall.mono ?_
  clear hcall
  rintro e wz ⟨rfl, rfl⟩
  rw [Nv47.out]
  go_upto_if 75 with (fail)
  go_cut [0] (fun v wx => v = .string s7 ∧ OSt b h w wx ⟨t1, c2, n3, n5, b4, x6, k7.how, k7.vic, k7.fd, k7.sd, k7.sub, 0⟩)
  case first =>
    cases v47 with
    | true =>
      have hsp := hasC_split Nv47.out
      obtain ⟨lt47, hlt47⟩ : ∃ y, l6.tail = y := ⟨_, rfl⟩
      rw [hlt47] at hsp
      have Nlt47 := Lib.hid hlt47
      obtain ⟨st47, hst47⟩ : ∃ y, sA lt47 = y := ⟨_, rfl⟩
      have Nst47 := Lib.hid hst47
      have ht : s6.extract 1 s6.size = st47 := by rw [← Ns6.out, hsp, ← hst47]; exact sA_tail 47 lt47
      have h1s : (1 : Int) ≤ s6.size := by have hq : 0 < s6.size := (by rw [← Ns6.out, hsp]; exact sA_pos 47 lt47); omega
      have HLt47 := Lib.hid (show lt47.length ≤ 1000000 by rw [← hlt47]; exact len_tail HL6.out)
      clear hsp hlt47 hst47
      have e0 : q7 l6 = outL lt47 := by rw [q7_eq, Nv47.out, Nlt47.out]; rfl
      have HE1 := Lib.hid (show (outL lt47).1 = k7 by rw [← e0]; exact Nk7.out)
      have HE2 := Lib.hid (show sA (outL lt47).2 = s7 by rw [← e0, Nl7.out]; exact Ns7.out)
      clear e0
      obtain ⟨N, hN⟩ : ∃ N : Nat, 12 = N := ⟨_, rfl⟩
      have hA : ∀ w, Sem.run Tryz.prog (isAgg 27) w = .ok true w := fun w => Tryz.isAgg27 w
      have hZ : ∀ w, Sem.run Tryz.prog (sizeOf 27) w = .ok N w := fun w => by rw [← hN]; exact Tryz.sizeOf27 w
      have hlo1 : Sem.run Tryz.prog (loadCellsFrom ⟨b, 0, none⟩ 0 N #[]) wF = .ok #[.int .u8 t1, .int .u8 c2, .int .i64 n3, .int .i64 n5, .int .i64 b4, .bool x6, .int .u8 0, .int .i64 0, .int .i64 0, .int .i64 0, .bool false, .int .i64 0] wF := run_loadCells_blk H6.out.dl hN
      have hlo2 : Sem.run Tryz.prog (loadCellsFrom ⟨b, 0, none⟩ 0 N #[]) wF.drew = .ok #[.int .u8 t1, .int .u8 c2, .int .i64 n3, .int .i64 n5, .int .i64 b4, .bool x6, .int .u8 0, .int .i64 0, .int .i64 0, .int .i64 0, .bool false, .int .i64 0] wF.drew := run_loadCells_blk H6.out.drew.dl hN
      have HN := Lib.hid hN
      clear hN
      go_wp2_with (fail)
      obtain ⟨L7, hL7⟩ : ∃ y, delE ⟨t1, c2, n3, n5, b4, x6, k7.how, k7.vic, k7.fd, k7.sd, k7.sub, 0⟩ = y := ⟨_, rfl⟩
      have HL7 := Lib.hid hL7
      have HLN := Lib.hid (show L7.length = N by rw [← hL7, ← HN.out]; rfl)
      have HDV := Lib.hid (show delV ⟨t1, c2, n3, n5, b4, x6, k7.how, k7.vic, k7.fd, k7.sd, k7.sub, 0⟩ = .agg L7.toArray by rw [← hL7]; rfl)
      have HON := Lib.hid (show L7.toArray.all (·.oneCell') = true by rw [← hL7]; exact api_one _)
      clear hL7
      go_region_with (have hcall := out_r lt47 HLt47.out t1 c2 n3 n5 b4 x6 0 wF.drew; rw [Nst47.out, HE1.out, HE2.out, HDV.out] at hcall; refine hcall.mono ?_; clear hcall; rintro e' w9 ⟨rfl, qb⟩; have H9 := Lib.hid (H6.out.drew.to qb); have hst : Sem.run Tryz.prog (storeCells ⟨b, 0, none⟩ L7) w9 = .ok () (w9.setRow b L7.toArray) := run_storeCells_blk _ H9.out.dl (by rw [HLN.out, ← HN.out]; exact api_info) (by rw [HLN.out, ← HN.out]; rfl) HON.out; have hlen : (L7.length = N) = True := eq_true HLN.out)
      all_goals (go_wp2_with (fail))
      all_goals go_meet
      all_goals (rw [← HL7.out]; exact ⟨rfl, H9.out.row HWB.out hne _⟩)
    | false =>
      have e0 : q7 l6 = (⟨0, 0, 0, 0, false⟩, l6) := by unfold q7; rw [Nv47.out]; rfl
      have e1 : k7 = ⟨0, 0, 0, 0, false⟩ := by rw [← Nk7.out, e0]
      have e2 : s7 = s6 := by rw [← Ns7.out, ← Ns6.out, ← Nl7.out, e0]
      have HE := Lib.hid (And.intro e1 e2)
      clear e0 e1 e2
      go_wp2_with (fail)
      go_meet
      case rel => rw [HE.out.1, HE.out.2]; exact ⟨rfl, H6.out⟩
  case rest =>
  obtain ⟨rfl, ho⟩ := hcut
  have H7 := Lib.hid ho
  clear ho
  rename World => wG
  obtain ⟨v64, hv64⟩ : ∃ y, hasC l7 64 = y := ⟨_, rfl⟩
  have Nv64 := Lib.hid hv64
  clear hv64
  have HL7b := Lib.hid (show l7.length ≤ 1000000 by rw [← Nl7.out]; exact q7_len l6 HL6.out)
  go_wp2_with (fail)
  have hcall := has_r l7 HL7b.out 64 wG
  rw [Ns7.out] at hcall
  refine hcall.mono ?_
  clear hcall
  rintro e wz ⟨rfl, rfl⟩
  rw [Nv64.out]
  go_upto_if 84 with (fail)
  go_cut [] (fun wx => OSt b h w wx ⟨t1, c2, n3, n5, b4, x6, k7.how, k7.vic, k7.fd, k7.sd, k7.sub, n8⟩)
  case first =>
    cases v64 with
    | true =>
      have hsp := hasC_split Nv64.out
      obtain ⟨lt64, hlt64⟩ : ∃ y, l7.tail = y := ⟨_, rfl⟩
      rw [hlt64] at hsp
      have Nlt64 := Lib.hid hlt64
      obtain ⟨st64, hst64⟩ : ∃ y, sA lt64 = y := ⟨_, rfl⟩
      have Nst64 := Lib.hid hst64
      have ht : s7.extract 1 s7.size = st64 := by rw [← Ns7.out, hsp, ← hst64]; exact sA_tail 64 lt64
      have h1s : (1 : Int) ≤ s7.size := by have hq : 0 < s7.size := (by rw [← Ns7.out, hsp]; exact sA_pos 64 lt64); omega
      have HLt64 := Lib.hid (show lt64.length ≤ 1000000 by rw [← hlt64]; exact len_tail HL7b.out)
      clear hsp hlt64 hst64
      have HE1 := Lib.hid (show (rdN lt64).1 = n8 by rw [← Nn8.out, q8, Nv64.out, if_pos rfl, Nlt64.out])
      go_wp2_with (fail)
      have hcall := number7_r lt64 HLt64.out wG
      rw [Nst64.out] at hcall
      refine hcall.mono ?_
      clear hcall
      rintro e w8 ⟨rfl, hb3⟩
      have H8a := Lib.hid (H7.out.to hb3)
      clear hb3
      rw [HE1.out]
      have hcb := H8a.out.dl.cell
      have hfb := H8a.out.dl.frozen
      have d11 := hcb 11
      have z11 := hfb 11
      simp only [delE, List.getElem?_cons_succ, List.getElem?_cons_zero] at d11
      clear hcb hfb
      have hlb := H8a.out.dl.lt
      obtain ⟨w8s, hw8s⟩ : ∃ y, w8.setCell ⟨b, 11, none⟩ (.int .i64 n8) = y := ⟨_, rfl⟩
      have H8s := Lib.hid (show OSt b h w w8s ⟨t1, c2, n3, n5, b4, x6, k7.how, k7.vic, k7.fd, k7.sd, k7.sub, n8⟩ by rw [← hw8s]; exact H8a.out.set HWB.out hne 11 _ rfl)
      have Sw8s := Lib.hid hw8s
      clear hw8s
      go_wp2_with (rw [Sw8s.out])
      go_meet
      case rel => exact H8s.out
    | false =>
      have HE := Lib.hid (show n8 = 0 by rw [← Nn8.out, q8, Nv64.out]; rfl)
      go_wp2_with (fail)
      go_meet
      case rel => rw [HE.out]; exact H7.out
  case rest =>
  have H8 := Lib.hid hcut
  clear hcut
  rename World => wH
  go_wp2_with (first | (refine wpList_loadC rfl _ 27 rfl b 27 (delE ⟨t1, c2, n3, n5, b4, x6, k7.how, k7.vic, k7.fd, k7.sd, k7.sub, n8⟩) _ rfl (by rfl) (by rfl) (by rfl) H8.out.dl ?_) | (refine wpList_storeC rfl _ _ 27 rfl h 27 (delE zeroD) (delE ⟨t1, c2, n3, n5, b4, x6, k7.how, k7.vic, k7.fd, k7.sd, k7.sub, n8⟩).toArray api_info (by rfl) (by rfl) H8.out.zr rfl (api_one _) ?_))
  refine ret_cell (g := h) (e := 27) (xs := (delE ⟨t1, c2, n3, n5, b4, x6, k7.how, k7.vic, k7.fd, k7.sd, k7.sub, n8⟩).toArray.toList) rfl (by rfl) (blk_row H8.out.zr _) rfl (by rfl) (by rfl) rfl ?_
  rw [HFIN.out]
  exact ⟨rfl, row_below H8.out.bl (Nat.le_of_eq HHH.out) _⟩
end

section
/-! Chapter 7: Parse of the reference. -/
open Go.RowKit
set_option maxRecDepth 100000
set_option maxHeartbeats 4000000
theorem guessR_how (l : List UInt8) : 0 ≤ (guessR l).how ∧ (guessR l).how ≤ 10 := by
  have hx : ∀ c, 0 ≤ idxL c ∧ idxL c ≤ 10 := fun c => by
    unfold idxL
    split
    · next i h =>
      have hi : i < lettersL.length := by
        rw [List.idxOf?, List.findIdx?_eq_some_iff_getElem] at h
        exact h.1
      have : lettersL.length = 11 := rfl
      omega
    · decide
  unfold guessR
  dsimp only
  unfold q7
  split
  · exact ⟨Int.le_refl 0, show (0 : Int) ≤ 10 by decide⟩
  split
  · exact ⟨Int.le_refl 0, show (0 : Int) ≤ 10 by decide⟩
  · dsimp only
    split
    · exact hx _
    · exact hx _
theorem q2_src (t : Int) (l : List UInt8) : 0 ≤ (q2 t l).1 := by
  unfold q2
  by_cases h1 : hasC l 46 = true
  · rw [if_pos h1]; exact Int.le_refl 0
  rw [if_neg h1]
  by_cases h2 : hasC l 98 = true
  · rw [if_pos h2]; exact (show (0 : Int) ≤ 2 by decide)
  rw [if_neg h2]
  by_cases h3 : hasC l 108 = true
  · rw [if_pos h3]; exact (show (0 : Int) ≤ 3 by decide)
  rw [if_neg h3]
  by_cases h4 : hasC l 111 = true
  · rw [if_pos h4]; exact (show (0 : Int) ≤ 1 by decide)
  rw [if_neg h4]
  by_cases ht : t = 2
  · rw [if_pos ht]; exact Int.le_refl 0
  · rw [if_neg ht]; exact (show (0 : Int) ≤ 1 by decide)
theorem guessR_src (l : List UInt8) : 0 ≤ (guessR l).src := q2_src _ _
theorem parse7_r (l : List UInt8) (hl : l.length ≤ 1000000) (w : World) : Calls Tryz.prog 73 #[.string (sA l)] w fun e w' => e = .returned (.tuple #[delV (parD (guessR l) l).1, .int .i64 (parD (guessR l) l).2]) ∧ Below w.heap.size w w' := by
  have HG := Lib.hid (guessR_how l)
  have hcg := fun w => guess7_r l hl w
  obtain ⟨G, hG⟩ : ∃ G, guessR l = G := ⟨_, rfl⟩
  simp only [hG] at hcg
  rw [hG] at HG
  rw [hG]
  obtain ⟨sl, hsl⟩ : ∃ y, sA l = y := ⟨_, rfl⟩
  rw [hsl]
  simp only [hsl] at hcg
  have HSL := Lib.hid hsl
  have HCG := Lib.hid hcg
  clear hsl hG hl hcg
  obtain ⟨W0, hW0⟩ : ∃ y, w.alloc (.cells (delE zeroD).toArray 27) = y := ⟨_, rfl⟩
  have HZ := Lib.hid (show Blk W0 w.heap.size 27 (delE zeroD) by rw [← hW0]; exact Blk.new w _ _)
  have HB0 := Lib.hid (show Below w.heap.size w W0 by rw [← hW0]; exact cur_new w _)
  have S0 := Lib.hid (show w.alloc (.cells #[.int .u8 0, .int .u8 0, .int .i64 0, .int .i64 0, .int .i64 0, .bool false, .int .u8 0, .int .i64 0, .int .i64 0, .int .i64 0, .bool false, .int .i64 0] 27) = W0 from hW0)
  clear hW0
  go_enter Tryz.func73, Tryz.ntmps73
  go_wp2_with (rw [S0.out])
  refine (HCG.out W0).mono ?_
  rintro e w1 ⟨rfl, hb1⟩
  obtain ⟨wc, hwc⟩ : ∃ y, w1.alloc (.cells (delE G).toArray 27) = y := ⟨_, rfl⟩
  have HDL := Lib.hid (show Blk wc w1.heap.size 27 (delE G) by rw [← hwc]; exact Blk.new w1 _ _)
  have HZZ := Lib.hid (show Blk wc w.heap.size 27 (delE zeroD) by rw [← hwc]; exact (HZ.out.to hb1).to (cur_new _ _))
  have HBW := Lib.hid (show Below w.heap.size w wc by rw [← hwc]; exact cur_step1 (cur_step1 HB0.out hb1) (cur_new _ _))
  have SWC := Lib.hid hwc
  obtain ⟨h, hh⟩ : ∃ h, w1.heap.size = h := ⟨_, rfl⟩
  rw [hh] at HDL
  have HHH := Lib.hid hh
  clear hwc hb1 hh
  go_wp2_with (first | (refine wpList_storeNew rfl _ _ 27 rfl _ (delE G).toArray api_info (by rfl) (by rfl) rfl (api_one _) ?_; rw [SWC.out, HHH.out]) | refine wpList_loadC rfl _ 27 rfl h 27 (delE G) _ rfl (by rfl) (by rfl) (by rfl) HDL.out ?_)
  by_cases hc : chkD G = 0
  · have HC := Lib.hid hc
    clear hc
    obtain ⟨tS, htS⟩ : ∃ y, sA (prtD G) = y := ⟨_, rfl⟩
    have NtS := Lib.hid htS
    clear htS
    refine (printr_p G HC.out HG.out.1 wc).mono ?_
    rintro e w26 ⟨rfl, hb26⟩
    rw [NtS.out]
    have HDL2 := Lib.hid (HDL.out.to hb26)
    have HZZ2 := Lib.hid (HZZ.out.to hb26)
    have HBW2 := Lib.hid (cur_step1 HBW.out hb26)
    clear hb26
    by_cases hp : prtD G = l
    · have g1 : (tS.toList == sl.toList) = true := by rw [← NtS.out, ← HSL.out, hp]; simp
      have HP := Lib.hid (show parD G l = (G, 0) by unfold parD; rw [if_pos ⟨HC.out, hp⟩])
      clear hp
      go_wp2_with (first | (refine wpList_loadC rfl _ 27 rfl h 27 (delE G) _ rfl (by rfl) (by rfl) (by rfl) HDL2.out ?_) | (refine wpList_storeC rfl _ _ 27 rfl w.heap.size 27 (delE zeroD) (delE G).toArray api_info (by rfl) (by rfl) HZZ2.out rfl (api_one _) ?_))
      refine ret_cell2 (g := w.heap.size) (e := 27) (xs := (delE G).toArray.toList) rfl (by rfl) (by rfl) (blk_row HZZ2.out _) rfl (by rfl) (by rfl) rfl ?_
      rw [HP.out]
      exact ⟨rfl, row_below HBW2.out (Nat.le_refl _) _⟩
    · have g1 : (tS.toList == sl.toList) = false := by
        rw [← NtS.out, ← HSL.out]
        simp only [beq_eq_false_iff_ne, ne_eq]
        intro he
        apply hp
        rw [sA_to, sA_to] at he
        exact he
      have HP := Lib.hid (show parD G l = (zeroD, 4) by unfold parD; rw [if_neg (fun q => hp q.2)])
      clear hp
      go_wp2_with (first | (refine wpList_loadC rfl _ 27 rfl h 27 (delE G) _ rfl (by rfl) (by rfl) (by rfl) HDL2.out ?_) | (refine wpList_storeC rfl _ _ 27 rfl w.heap.size 27 (delE zeroD) (delE zeroD).toArray api_info (by rfl) (by rfl) HZZ2.out rfl (api_one _) ?_))
      refine ret_cell2 (g := w.heap.size) (e := 27) (xs := (delE zeroD).toArray.toList) rfl (by rfl) (by rfl) (blk_row HZZ2.out _) rfl (by rfl) (by rfl) rfl ?_
      rw [HP.out]
      exact ⟨rfl, row_below HBW2.out (Nat.le_refl _) _⟩
  · obtain ⟨v, hv⟩ : ∃ v, chkD G = v := ⟨_, rfl⟩
    have g1 : (v != 0) = true := by rw [← hv]; simpa using hc
    have HP := Lib.hid (show parD G l = (zeroD, 4) by unfold parD; rw [if_neg (fun q => hc q.1)])
    have HV := Lib.hid hv
    have HV0 := Lib.hid (show v ≠ 0 by rw [← hv]; exact hc)
    clear hc hv
    refine (printr_e G v HV.out HV0.out wc).mono ?_
    rintro e w26 ⟨rfl, hb26⟩
    have HDL2 := Lib.hid (HDL.out.to hb26)
    have HZZ2 := Lib.hid (HZZ.out.to hb26)
    have HBW2 := Lib.hid (cur_step1 HBW.out hb26)
    clear hb26
    go_wp2_with (first | (refine wpList_storeC rfl _ _ 27 rfl w.heap.size 27 (delE zeroD) (delE zeroD).toArray api_info (by rfl) (by rfl) HZZ2.out rfl (api_one _) ?_))
    refine ret_cell2 (g := w.heap.size) (e := 27) (xs := (delE zeroD).toArray.toList) rfl (by rfl) (by rfl) (blk_row HZZ2.out _) rfl (by rfl) (by rfl) rfl ?_
    rw [HP.out]
    exact ⟨rfl, row_below HBW2.out (Nat.le_refl _) _⟩
end
end Go.Proofs.YtgkjcapoddjkhaaGreatDoor
