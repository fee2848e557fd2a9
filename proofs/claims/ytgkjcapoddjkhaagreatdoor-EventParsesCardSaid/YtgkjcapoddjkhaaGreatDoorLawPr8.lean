/-
  Texts of one chapter, put together (a claim holds at most sixty files).
-/
import Derived.Test.YtgkjcapoddjkhaaGreatDoorEvT1
import Derived.Test.YtgkjcapoddjkhaaGreatDoorNotPa
import Derived.Test.YtgkjcapoddjkhaaGreatDoorEvP
import Derived.Test.YtgkjcapoddjkhaaGreatDoorPar7R
import Derived.Test.YtgkjcapoddjkhaaGreatDoorNumRE
import Derived.Test.YtgkjcapoddjkhaaGreatDoorEvPb
import Derived.Deep.DeepCutAuto
import Derived.Deep.CutBlock
import Derived.Test.YtgkjcapoddjkhaaGreatDoorTxR8
import Derived.Test.YtgkjcapoddjkhaaGreatDoorAwk8
set_option linter.unusedSimpArgs false
set_option linter.unusedVariables false
namespace Go.Proofs.YtgkjcapoddjkhaaGreatDoor
section
/-! Chapter 7: the reference's Fields, the parts of a string between single blanks. -/
open Go.RowKit
set_option maxRecDepth 100000
set_option maxHeartbeats 4000000
/-- So far: the parts, where the next one begins, how far it has been looked at. -/
def FdI (l : List UInt8) (acc : List (List UInt8)) (f k : Nat) : Prop :=
  (k ≤ l.length ∧ f ≤ k ∧ (32 : UInt8) ∉ (l.drop f).take (k - f) ∧ splitC 32 l = acc ++ splitC 32 (l.drop f)) ∨ (k = l.length + 1 ∧ acc = splitC 32 l)
theorem FdI.start (l : List UInt8) : FdI l [] 0 0 := .inl ⟨by omega, by omega, by simp, by simp⟩
theorem FdI.step {l : List UInt8} {acc : List (List UInt8)} {f k : Nat} (h : FdI l acc f k) {c : UInt8} (hc : l[k]? = some c) (hn : c ≠ 32) : FdI l acc f (k + 1) := by
  have hk : k < l.length := (List.getElem?_eq_some_iff.1 hc).1
  rcases h with ⟨h1, h2, h3, h4⟩ | ⟨h1, _⟩
  · refine .inl ⟨by omega, by omega, ?_, h4⟩
    rw [show k + 1 - f = (k - f) + 1 by omega, List.take_add_one]
    intro hm
    rcases List.mem_append.1 hm with hm | hm
    · exact h3 hm
    · rw [List.getElem?_drop, show f + (k - f) = k by omega, hc] at hm
      simp at hm
      exact hn hm.symm
  · omega
theorem FdI.cut {l : List UInt8} {acc : List (List UInt8)} {f k : Nat} (h : FdI l acc f k) (hc : l[k]? = some 32) : FdI l (acc ++ [(l.drop f).take (k - f)]) (k + 1) (k + 1) := by
  have hk : k < l.length := (List.getElem?_eq_some_iff.1 hc).1
  rcases h with ⟨h1, h2, h3, h4⟩ | ⟨h1, _⟩
  · refine .inl ⟨by omega, by omega, by simp, ?_⟩
    have hd : l.drop f = (l.drop f).take (k - f) ++ 32 :: l.drop (k + 1) := by
      have e1 := (List.take_append_drop (k - f) (l.drop f)).symm
      rw [List.drop_drop, show f + (k - f) = k by omega, List.drop_eq_getElem_cons hk] at e1
      have e2 : l[k] = 32 := Option.some.inj ((List.getElem?_eq_getElem hk).symm.trans hc)
      rw [e2] at e1
      exact e1
    rw [h4, List.append_assoc]
    congr 1
    conv => lhs; rw [hd, splitC_app h3]
    rfl
  · omega
theorem FdI.last {l : List UInt8} {acc : List (List UInt8)} {f : Nat} (h : FdI l acc f l.length) : FdI l (acc ++ [(l.drop f).take (l.length - f)]) (l.length + 1) (l.length + 1) := by
  rcases h with ⟨h1, h2, h3, h4⟩ | ⟨h1, _⟩
  · refine .inr ⟨rfl, ?_⟩
    have e : (l.drop f).take (l.length - f) = l.drop f := by rw [List.take_of_length_le]; rw [List.length_drop]; omega
    rw [e] at h3 ⊢
    rw [h4, splitC_none h3]
  · omega
theorem FdI.end_ {l : List UInt8} {acc : List (List UInt8)} {f k : Nat} (h : FdI l acc f k) (hk : l.length < k) : acc = splitC 32 l := by
  rcases h with ⟨h1, _⟩ | ⟨_, h2⟩
  · omega
  · exact h2
theorem FdI.le {l : List UInt8} {acc : List (List UInt8)} {f k : Nat} (h : FdI l acc f k) : k ≤ l.length + 1 ∧ (k ≤ l.length → f ≤ k) := by
  rcases h with ⟨h1, h2, _⟩ | ⟨h1, _⟩ <;> omega
def FdR (l : List UInt8) (w : World) (lv fv iv : Value) (wr : World) : Prop := ∃ (acc : List (List UInt8)) (f k : Nat) (A : Option Addr) (c : Nat), lv = .slice A acc.length c ∧ fv = .int .i64 f ∧ iv = .int .i64 k ∧ acc.length ≤ k ∧ FdI l acc f k ∧ OwnL stE 1 9 w.heap.size wr (.slice A acc.length c) acc ∧ Below w.heap.size w wr
theorem sA_sl7 (l : List UInt8) (f k : Nat) : (sA l).extract f k = sA ((l.drop f).take (k - f)) := by
  apply ByteArray.ext
  unfold sA
  rw [ByteArray.data_extract]
  apply Array.ext'
  simp
theorem fields7_r (l : List UInt8) (hl : l.length ≤ 1000000) (w : World) : Calls Tryz.prog 46 #[.string (sA l)] w fun e w' => ∃ A c, e = .returned (.slice A (fieldsS l).length c) ∧ OwnL stE 1 9 w.heap.size w' (.slice A (fieldsS l).length c) (fieldsS l) ∧ Below w.heap.size w w' := by
  by_cases h0 : l = []
  · subst h0
    have g0 : ((sA []).toList == []) = true := by rw [sA_to]; rfl
    generalize hs0 : sA [] = s0 at *
    clear hs0
    go_enter Tryz.func46, Tryz.ntmps46
    go_wp2_with (fail)
    go_ret
    exact ⟨none, 0, rfl, World.ownsRow_nil _ _ _ _, Below.refl _ _⟩
  have g0 : ((sA l).toList == []) = false := by rw [sA_to]; simpa using h0
  have HF := Lib.hid (show fieldsS l = splitC 32 l by unfold fieldsS; rw [if_neg h0])
  obtain ⟨s, hs⟩ : ∃ s, sA l = s := ⟨_, rfl⟩
  rw [hs] at g0
  have HS := Lib.hid hs
  have HSZ := Lib.hid (show s.size = l.length by rw [← hs, sA_size])
  have hsz : s.size ≤ 1000000 := by rw [HSZ.out]; exact hl
  rw [hs]
  clear h0 hs
  go_enter Tryz.func46, Tryz.ntmps46
  go_wp2_with (fail)
  obtain ⟨M, hM⟩ : ∃ M : Nat, l.length + 1 = M := ⟨_, rfl⟩
  have HM := Lib.hid hM
  clear hM
  go_loopw [3, 4, 5] (FdR l w) (fun _ _ i _ => M - (intOf i).toNat)
  case atStart => exact ⟨[], 0, 0, none, 0, rfl, rfl, rfl, Nat.le_refl _, FdI.start l, World.ownsRow_nil _ _ _ _, Below.refl _ _⟩
  case round =>
    obtain ⟨acc, f, k, A, c, rfl, rfl, rfl, hak, hfd, hown, hb⟩ := hrel
    have HFD := Lib.hid hfd
    have HO := Lib.hid hown
    have HB := Lib.hid hb
    obtain ⟨hk1, hk2⟩ := hfd.le
    have HK2 := Lib.hid hk2
    clear hfd hown hb hk2
    by_cases hkl : k ≤ l.length
    · have hkf := HK2.out hkl
      have gk : decide ((k : Int) ≤ s.size) = true := by have := HSZ.out; simp; omega
      have gk2 : k ≤ s.size := by have := HSZ.out; omega
      have gk3 : f ≤ s.size := by omega
      obtain ⟨P, hP⟩ : ∃ P, (l.drop f).take (k - f) = P := ⟨_, rfl⟩
      obtain ⟨sP, hsP⟩ : ∃ y, sA P = y := ⟨_, rfl⟩
      have hx : s.extract f k = sP := by rw [← HS.out, sA_sl7, hP, hsP]
      have HP := Lib.hid hP
      have HSP := Lib.hid hsP
      have HX := Lib.hid (show s.extract f k = sA P by rw [hx, hsP])
      clear hP hsP
      by_cases hke : k = l.length
      · have ge : (((k : Int)) == (s.size : Int)) = true := by have := HSZ.out; simp; omega
        have HFL := Lib.hid (show FdI l (acc ++ [P]) (k + 1) (k + 1) by rw [← HP.out, hke]; have := HFD.out; rw [hke] at this; exact this.last)
        have hkn : k ≤ 1000001 := by omega
        have HKE := Lib.hid hke
        clear hke
        · go_wp2_with (first | (refine wpList_app1 Tryz.stElem _ rfl (.tmp 24) (.tmp 29) rfl w.heap.size A c acc rfl ?o1 P wr.heap.size 1 rfl ?o2 ?o3 ?o4 ?o5 ?_) | rw [HX.out])
          case o1 => exact World.ownsRow.alloc HO.out _
          case o2 => rw [← HSP.out]; first | exact heap_alloc_new _ _ | exact (Array.getElem?_eq_some_iff.1 (heap_alloc_new _ _)).2
          case o3 => unfold maxLen; omega
          case o4 => omega
          case o5 => have := HB.out.size; first | omega | (simp; omega)
          intro g cap w8 ha
          have hb8 := app1_end (f := P) (enc := stE) (l := acc) HB.out (own_base HO.out) (cur_new wr _) ha
          have HO8 := Lib.hid hb8.2
          have HB8 := Lib.hid hb8.1
          clear ha hb8
          go_wp2_with (fail)
          exact ⟨⟨acc ++ [P], k + 1, k + 1, _, cap, by simp, rfl, rfl, by simp; omega, HFL.out, HO8.out, HB8.out⟩, by show M - (k + 1) < M - k; have := HM.out; omega⟩
      · obtain ⟨ch, hch⟩ : ∃ ch, l[k]? = some ch := ⟨_, List.getElem?_eq_getElem (by omega)⟩
        have hks : k < s.size := by have := HSZ.out; omega
        have hix : s[k]'hks = ch := by
          have h1 := HS.out
          subst h1
          have h2 : (sA l).data[k]? = some ch := by unfold sA; simpa using hch
          exact (Array.getElem?_eq_some_iff.1 h2).2
        have ge : (((k : Int)) == (s.size : Int)) = false := by have := HSZ.out; simp; omega
        have hkn : k ≤ 1000001 := by omega
        by_cases h32 : ch = 32
        · subst h32
          have HFL := Lib.hid (show FdI l (acc ++ [P]) (k + 1) (k + 1) by rw [← HP.out]; exact HFD.out.cut hch)
          clear hch hke
          go_wp2_with (first | (refine wpList_app1 Tryz.stElem _ rfl (.tmp 24) (.tmp 29) rfl w.heap.size A c acc rfl ?o1 P wr.heap.size 1 rfl ?o2 ?o3 ?o4 ?o5 ?_) | rw [HX.out])
          case o1 => exact World.ownsRow.alloc HO.out _
          case o2 => rw [← HSP.out]; first | exact heap_alloc_new _ _ | exact (Array.getElem?_eq_some_iff.1 (heap_alloc_new _ _)).2
          case o3 => unfold maxLen; omega
          case o4 => omega
          case o5 => have := HB.out.size; first | omega | (simp; omega)
          intro g cap w8 ha
          have hb8 := app1_end (f := P) (enc := stE) (l := acc) HB.out (own_base HO.out) (cur_new wr _) ha
          have HO8 := Lib.hid hb8.2
          have HB8 := Lib.hid hb8.1
          clear ha hb8
          go_wp2_with (fail)
          exact ⟨⟨acc ++ [P], k + 1, k + 1, _, cap, by simp, rfl, rfl, by simp; omega, HFL.out, HO8.out, HB8.out⟩, by show M - (k + 1) < M - k; have := HM.out; omega⟩
        · have g32 : ((ch.toNat : Int) == 32) = false := by
            simp only [beq_eq_false_iff_ne, ne_eq]
            intro h
            exact h32 (UInt8.toNat.inj (by simpa using (by omega : ch.toNat = 32)))
          have HFL := Lib.hid (show FdI l acc f (k + 1) from HFD.out.step hch h32)
          clear hch hke h32
          go_wp2_with (fail)
          exact ⟨⟨acc, f, k + 1, A, c, rfl, rfl, rfl, by omega, HFL.out, HO.out, HB.out⟩, by show M - (k + 1) < M - k; have := HM.out; omega⟩
    · have gk : decide ((k : Int) ≤ s.size) = false := by have := HSZ.out; simp; omega
      have gk2 : ¬ k ≤ s.size := by have := HSZ.out; omega
      have HEN := Lib.hid (show acc = fieldsS l by rw [HF.out]; exact HFD.out.end_ (by omega))
      clear hkl
      go_wp2_with (fail)
      go_ret
      rw [← HEN.out]
      exact ⟨A, c, rfl, HO.out, HB.out⟩
end

section
/-! Chapter 8: the reference's reading of a line's fields. -/
open Go.RowKit
set_option maxRecDepth 100000
set_option maxHeartbeats 8000000
theorem word8_r (ws : List (List UInt8)) (A : Option Addr) (c i : Nat) (w : World) (hl : ws.length ≤ 10000000) (hi : i ≤ 10) (hr : Rd stE 1 w w.heap.size A ws) : Calls Tryz.prog 71 #[.slice A ws.length c, .int .i64 i] w fun e w' => e = .returned (.string (sA (wordF ws i))) ∧ w = w' := by
  by_cases h : i < ws.length
  · have g1 : decide ((ws.length : Int) ≤ i) = false := by simp; omega
    obtain ⟨x, hx⟩ : ∃ x, ws[i]? = some x := ⟨_, List.getElem?_eq_getElem h⟩
    obtain ⟨b, off, rfl, hb, hc⟩ := hr i x hx
    have d0 : w.cell? ⟨b, off + i, none⟩ = some (.string (sA x)) := by simpa using hc 0 _ rfl
    have HX := Lib.hid (show wordF ws i = x by unfold wordF; rw [List.getD_eq_getElem?_getD, hx]; rfl)
    clear hx hc hr
    go_enter Tryz.func71, Tryz.ntmps71
    go_wp2_with (fail)
    go_ret
    rw [HX.out]
    exact ⟨rfl, rfl⟩
  · have g1 : decide ((ws.length : Int) ≤ i) = true := by simp; omega
    have HX := Lib.hid (show sA (wordF ws i) = ⟨#[]⟩ by unfold wordF; rw [List.getD_eq_getElem?_getD, List.getElem?_eq_none (by omega)]; rfl)
    clear hr
    go_enter Tryz.func71, Tryz.ntmps71
    go_wp2_with (fail)
    go_ret
    rw [HX.out]
    exact ⟨rfl, rfl⟩
theorem number8_r (ws : List (List UInt8)) (A : Option Addr) (c i : Nat) (w : World) (hl : ws.length ≤ 10000000) (hi : i ≤ 10) (hz : ∀ x ∈ ws, x.length ≤ 1000000) (hr : Rd stE 1 w w.heap.size A ws) : Calls Tryz.prog 72 #[.slice A ws.length c, .int .i64 i] w fun e w' => e = .returned (.int .i64 (numF ws i)) ∧ Below w.heap.size w w' := by
  by_cases h : i < ws.length
  · have g1 : decide ((ws.length : Int) ≤ i) = false := by simp; omega
    obtain ⟨x, hx⟩ : ∃ x, ws[i]? = some x := ⟨_, List.getElem?_eq_getElem h⟩
    obtain ⟨b, off, rfl, hb, hc⟩ := hr i x hx
    have d0 : w.cell? ⟨b, off + i, none⟩ = some (.string (sA x)) := by simpa using hc 0 _ rfl
    have HXL := Lib.hid (hz x (List.mem_of_getElem? hx))
    obtain ⟨P, hP⟩ : ∃ P, numP x 0 1000000 = P := ⟨_, rfl⟩
    have HX := Lib.hid (show numF ws i = if P.2 = 0 then P.1 else -1 by unfold numF; rw [hx]; dsimp only; rw [hP])
    have HPP := Lib.hid hP
    clear hx hc hr hz hP
    obtain ⟨v, er⟩ := P
    go_enter Tryz.func72, Tryz.ntmps72
    go_wp2_with (fail)
    have hcall := number_r (sA x) (by rw [sA_size]; have := HXL.out; omega) 0 1000000 (by decide) (by decide) w
    rw [sA_data, HPP.out] at hcall
    refine hcall.mono ?_
    clear hcall
    rintro e w1 ⟨rfl, hb1⟩
    dsimp only
    have HB1 := Lib.hid hb1
    clear hb1
    by_cases he : er = 0
    · subst he
      have HX2 := Lib.hid (show numF ws i = v by rw [HX.out]; rfl)
      go_wp2_with (fail)
      go_ret
      rw [HX2.out]
      exact ⟨rfl, HB1.out⟩
    · have g2 : (er != 0) = true := by simpa using he
      have HX2 := Lib.hid (show numF ws i = -1 by rw [HX.out, if_neg he])
      clear he
      go_wp2_with (fail)
      go_ret
      rw [HX2.out]
      exact ⟨rfl, HB1.out⟩
  · have g1 : decide ((ws.length : Int) ≤ i) = true := by simp; omega
    have HX := Lib.hid (show numF ws i = -1 by unfold numF; rw [List.getElem?_eq_none (by omega)])
    clear hr
    go_enter Tryz.func72, Tryz.ntmps72
    go_wp2_with (fail)
    go_ret
    rw [HX.out]
    exact ⟨rfl, Below.refl _ _⟩
/-- The two events of the call's own. -/
structure GSt (b h : Nat) (w wr : World) (x : Ev) : Prop where
  ev : Blk wr b 29 (evE x)
  zr : Blk wr h 29 (evE zeroE)
  bl : Below w.heap.size w wr
theorem GSt.to {b h : Nat} {w wr w1 : World} {x : Ev} (H : GSt b h w wr x) (hb : Below wr.heap.size wr w1) : GSt b h w w1 x := ⟨H.ev.to hb, H.zr.to hb, cur_step1 H.bl hb⟩
theorem GSt.row {b h : Nat} {w wr : World} {x : Ev} (H : GSt b h w wr x) (hb : w.heap.size ≤ b) (hne : h ≠ b) (y : Ev) : GSt b h w (wr.setRow b (evE y).toArray) y :=
  ⟨by simpa using blk_row H.ev (evE y).toArray, Blk.row_other H.zr hne _, row_below H.bl hb _⟩
theorem GSt.drew {b h : Nat} {w wr : World} {x : Ev} (H : GSt b h w wr x) : GSt b h w wr.drew x := H.to ((Below.refl wr.heap.size wr).drew)
theorem str_no {l m : List UInt8} (h : l ≠ m) : ((sA l).toList == m) = false := by rw [sA_to]; simpa using h
theorem str_yes {l m : List UInt8} (h : l = m) : ((sA l).toList == m) = true := by rw [sA_to]; simpa using h
theorem str_dec (l m : List UInt8) : ((sA l).toList == m) = decide (l = m) := by
  rw [sA_to]
  by_cases h : l = m <;> simp [h]
theorem guessG (f : List (List UInt8)) : guessF f = if wordF f 0 = [84, 79, 83, 83] then ⟨1, numF f 1, 0, 0, decide (wordF f 2 = [66, 65, 84]), 0, 0, zeroD⟩ else if wordF f 0 = [79, 80, 69, 78] then ⟨2, 0, numF f 1, numF f 2, false, 0, 0, zeroD⟩ else if wordF f 0 = [66, 79, 87, 76] then ⟨3, 0, numF f 1, 0, false, 0, 0, zeroD⟩ else if wordF f 0 = [66, 65, 76, 76] then ⟨4, 0, 0, 0, false, 0, 0, (parD (guessR (wordF f 1)) (wordF f 1)).1⟩ else if wordF f 0 = [69, 78, 84, 69, 82] ∨ wordF f 0 = [84, 73, 77, 69, 79, 85, 84] then ⟨5, 0, numF f 1, 0, decide (wordF f 0 = [84, 73, 77, 69, 79, 85, 84]), 0, 0, zeroD⟩ else if wordF f 0 = [82, 69, 84, 73, 82, 69] then ⟨6, 0, numF f 1, 0, decide (wordF f 2 = [72, 85, 82, 84]), 0, 0, zeroD⟩ else if wordF f 0 = [70, 73, 69, 76, 68] then ⟨7, 0, 0, 0, false, numF f 1, 0, zeroD⟩ else if wordF f 0 = [75, 69, 69, 80, 69, 82] then ⟨8, 0, numF f 1, 0, false, 0, 0, zeroD⟩ else if wordF f 0 = [83, 85, 66] then ⟨9, 0, numF f 1, 0, decide (wordF f 2 = [79, 78]), 0, 0, zeroD⟩ else if wordF f 0 = [78, 69, 87, 66, 65, 76, 76] then ⟨10, 0, 0, 0, false, 0, 0, zeroD⟩ else if wordF f 0 = [68, 69, 67, 76, 65, 82, 69] then ⟨11, numF f 1, 0, 0, false, 0, 0, zeroD⟩ else if wordF f 0 = [70, 79, 76, 76, 79, 87] then ⟨12, numF f 1, 0, 0, decide (wordF f 2 = [89, 69, 83]), 0, 0, zeroD⟩ else if wordF f 0 = [80, 69, 78, 65, 76, 84, 89] then ⟨13, numF f 1, 0, 0, false, numF f 2, 0, zeroD⟩ else if wordF f 0 = [82, 69, 86, 73, 69, 87] then ⟨14, numF f 1, 0, 0, decide (wordF f 2 = [75, 69, 80, 84]), 0, 0, zeroD⟩ else if wordF f 0 = [82, 69, 86, 73, 83, 69] then ⟨15, 0, 0, 0, false, numF f 1, numF f 2, zeroD⟩ else if wordF f 0 = [83, 84, 79, 80] then ⟨16, 0, 0, 0, false, 0, 0, zeroD⟩ else zeroE := rfl
attribute [-simp] Tryz.isAgg29 Tryz.sizeOf29
theorem guess8_r (ws : List (List UInt8)) (A : Option Addr) (c : Nat) (w : World) (hl : ws.length ≤ 10000000) (hz : ∀ x ∈ ws, x.length ≤ 1000000) (hr : Rd stE 1 w w.heap.size A ws) : Calls Tryz.prog 45 #[.slice A ws.length c] w fun e w' => e = .returned (evV (guessF ws)) ∧ Below w.heap.size w w' := by
  obtain ⟨R, hR⟩ : ∃ R, guessF ws = R := ⟨_, rfl⟩
  rw [hR]
  have HR := Lib.hid hR
  have HZ := Lib.hid hz
  have HRD := Lib.hid hr
  obtain ⟨h, hh⟩ : ∃ h, w.heap.size = h := ⟨_, rfl⟩
  have HHH := Lib.hid hh
  obtain ⟨b, hb⟩ : ∃ b, h + 1 = b := ⟨_, rfl⟩
  have HBB := Lib.hid hb
  have hne : h ≠ b := by omega
  obtain ⟨w1, hw1⟩ : ∃ y, (w.alloc (.cells (evE zeroE).toArray 29)).alloc (.cells (evE zeroE).toArray 29) = y := ⟨_, rfl⟩
  have H1 := Lib.hid (show GSt b h w w1 zeroE by
    have hs : (w.alloc (.cells (evE zeroE).toArray 29)).heap.size = b := by rw [World.size_alloc, hh, hb]
    refine ⟨?_, ?_, ?_⟩
    · rw [← hw1, ← hs]; exact Blk.new _ _ (evE zeroE)
    · rw [← hw1, ← hh]; exact (Blk.new w 29 (evE zeroE)).to (cur_new _ _)
    · rw [← hw1]; exact cur_two w _ _)
  have SW1 := Lib.hid (show (w.alloc (.cells #[.int .u8 0, .int .i64 0, .int .i64 0, .int .i64 0, .bool false, .int .i64 0, .int .i64 0, .int .u8 0, .int .u8 0, .int .i64 0, .int .i64 0, .int .i64 0, .bool false, .int .u8 0, .int .i64 0, .int .i64 0, .int .i64 0, .bool false, .int .i64 0] 29)).alloc (.cells #[.int .u8 0, .int .i64 0, .int .i64 0, .int .i64 0, .bool false, .int .i64 0, .int .i64 0, .int .u8 0, .int .u8 0, .int .i64 0, .int .i64 0, .int .i64 0, .bool false, .int .u8 0, .int .i64 0, .int .i64 0, .int .i64 0, .bool false, .int .i64 0] 29) = w1 from hw1)
  have HWB := Lib.hid (show w.heap.size ≤ b by omega)
  have HLW := Lib.hid hl
  clear hR hw1 hh hb hz hr
  obtain ⟨w0, hw0⟩ : ∃ y, wordF ws 0 = y := ⟨_, rfl⟩
  have HW0 := Lib.hid hw0
  obtain ⟨s0, hs0⟩ : ∃ y, sA w0 = y := ⟨_, rfl⟩
  have HS0 := Lib.hid hs0
  clear hw0 hs0
  go_enter Tryz.func45, Tryz.ntmps45
  go_wp2_with (rw [SW1.out, HHH.out])
  rw [HBB.out]
  have hcall := word8_r ws A c 0 w1 HLW.out (by decide) (HRD.out.to H1.out.bl)
  rw [HW0.out, HS0.out] at hcall
  refine hcall.mono ?_
  clear hcall
  rintro e wz ⟨rfl, rfl⟩
  go_upto_block 0 with (fail)
  go_cut [] (fun wx => GSt b h w wx R)
  case first =>
    by_cases q0 : w0 = [84, 79, 83, 83]
    · have g0 : (s0.toList == [84, 79, 83, 83]) = true := by rw [← HS0.out]; exact str_yes q0
      obtain ⟨n0, hn0⟩ : ∃ y, numF ws 1 = y := ⟨_, rfl⟩
      have HN0 := Lib.hid hn0
      clear hn0
      obtain ⟨x1, hx1⟩ : ∃ y, wordF ws 2 = y := ⟨_, rfl⟩
      have HX1 := Lib.hid hx1
      clear hx1
      obtain ⟨sx1, hsx1⟩ : ∃ y, sA x1 = y := ⟨_, rfl⟩
      have HSX1 := Lib.hid hsx1
      clear hsx1
      obtain ⟨y1, hy1⟩ : ∃ y, decide (x1 = [66, 65, 84]) = y := ⟨_, rfl⟩
      have gy1 : (sx1.toList == [66, 65, 84]) = y1 := by rw [← hy1, ← HSX1.out]; exact str_dec _ _
      have HY1 := Lib.hid hy1
      clear hy1
      have HFN := Lib.hid (show R = ⟨1, n0, 0, 0, y1, 0, 0, zeroD⟩ by
        rw [← HR.out, guessG]
        rw [HW0.out, if_pos q0]
        rw [← HN0.out, ← HY1.out, ← HX1.out])
      clear q0
      go_wp2_with (fail)
      have hcall := number8_r ws A c 1 w1 HLW.out (by decide) HZ.out (HRD.out.to H1.out.bl)
      rw [HN0.out] at hcall
      refine hcall.mono ?_
      clear hcall
      rintro e wq0 ⟨rfl, hbq0⟩
      have H2 := Lib.hid (H1.out.to hbq0)
      clear hbq0
      go_wp2_with (fail)
      have hcall := word8_r ws A c 2 wq0 HLW.out (by decide) (HRD.out.to H2.out.bl)
      rw [HX1.out, HSX1.out] at hcall
      refine hcall.mono ?_
      clear hcall
      rintro e wz ⟨rfl, rfl⟩
      go_wp2_with (refine wpList_storeC rfl _ _ 29 rfl b 29 (evE zeroE) (evE ⟨1, n0, 0, 0, y1, 0, 0, zeroD⟩).toArray evt_info (by rfl) (by rfl) H2.out.ev rfl (evt_one _) ?_)
      go_meet
      case rel =>
        rw [HFN.out]
        exact H2.out.row HWB.out hne _
    · have g0 : (s0.toList == [84, 79, 83, 83]) = false := by rw [← HS0.out]; exact str_no q0
      by_cases q1 : w0 = [79, 80, 69, 78]
      · have g1 : (s0.toList == [79, 80, 69, 78]) = true := by rw [← HS0.out]; exact str_yes q1
        obtain ⟨n0, hn0⟩ : ∃ y, numF ws 1 = y := ⟨_, rfl⟩
        have HN0 := Lib.hid hn0
        clear hn0
        obtain ⟨n1, hn1⟩ : ∃ y, numF ws 2 = y := ⟨_, rfl⟩
        have HN1 := Lib.hid hn1
        clear hn1
        have HFN := Lib.hid (show R = ⟨2, 0, n0, n1, false, 0, 0, zeroD⟩ by
          rw [← HR.out, guessG]
          rw [HW0.out, if_neg q0, if_pos q1]
          rw [← HN0.out, ← HN1.out])
        clear q0 q1
        go_wp2_with (fail)
        have hcall := number8_r ws A c 1 w1 HLW.out (by decide) HZ.out (HRD.out.to H1.out.bl)
        rw [HN0.out] at hcall
        refine hcall.mono ?_
        clear hcall
        rintro e wq0 ⟨rfl, hbq0⟩
        have H2 := Lib.hid (H1.out.to hbq0)
        clear hbq0
        go_wp2_with (fail)
        have hcall := number8_r ws A c 2 wq0 HLW.out (by decide) HZ.out (HRD.out.to H2.out.bl)
        rw [HN1.out] at hcall
        refine hcall.mono ?_
        clear hcall
        rintro e wq1 ⟨rfl, hbq1⟩
        have H3 := Lib.hid (H2.out.to hbq1)
        clear hbq1
        go_wp2_with (refine wpList_storeC rfl _ _ 29 rfl b 29 (evE zeroE) (evE ⟨2, 0, n0, n1, false, 0, 0, zeroD⟩).toArray evt_info (by rfl) (by rfl) H3.out.ev rfl (evt_one _) ?_)
        go_meet
        case rel =>
          rw [HFN.out]
          exact H3.out.row HWB.out hne _
      · have g1 : (s0.toList == [79, 80, 69, 78]) = false := by rw [← HS0.out]; exact str_no q1
        by_cases q2 : w0 = [66, 79, 87, 76]
        · have g2 : (s0.toList == [66, 79, 87, 76]) = true := by rw [← HS0.out]; exact str_yes q2
          obtain ⟨n0, hn0⟩ : ∃ y, numF ws 1 = y := ⟨_, rfl⟩
          have HN0 := Lib.hid hn0
          clear hn0
          have HFN := Lib.hid (show R = ⟨3, 0, n0, 0, false, 0, 0, zeroD⟩ by
            rw [← HR.out, guessG]
            rw [HW0.out, if_neg q0, if_neg q1, if_pos q2]
            rw [← HN0.out])
          clear q0 q1 q2
          go_wp2_with (fail)
          have hcall := number8_r ws A c 1 w1 HLW.out (by decide) HZ.out (HRD.out.to H1.out.bl)
          rw [HN0.out] at hcall
          refine hcall.mono ?_
          clear hcall
          rintro e wq0 ⟨rfl, hbq0⟩
          have H2 := Lib.hid (H1.out.to hbq0)
          clear hbq0
          go_wp2_with (refine wpList_storeC rfl _ _ 29 rfl b 29 (evE zeroE) (evE ⟨3, 0, n0, 0, false, 0, 0, zeroD⟩).toArray evt_info (by rfl) (by rfl) H2.out.ev rfl (evt_one _) ?_)
          go_meet
          case rel =>
            rw [HFN.out]
            exact H2.out.row HWB.out hne _
        · have g2 : (s0.toList == [66, 79, 87, 76]) = false := by rw [← HS0.out]; exact str_no q2
          by_cases q3 : w0 = [66, 65, 76, 76]
          · have g3 : (s0.toList == [66, 65, 76, 76]) = true := by rw [← HS0.out]; exact str_yes q3
            obtain ⟨x1, hx1⟩ : ∃ y, wordF ws 1 = y := ⟨_, rfl⟩
            have HXL := Lib.hid (show x1.length ≤ 1000000 by
              rw [← hx1]; unfold wordF; rw [List.getD_eq_getElem?_getD]
              cases h9 : ws[1]? with
              | none => simp
              | some x => exact HZ.out x (List.mem_of_getElem? h9))
            have HX1 := Lib.hid hx1
            clear hx1
            obtain ⟨D9, hD9⟩ : ∃ y, (parD (guessR x1) x1).1 = y := ⟨_, rfl⟩
            have HD9 := Lib.hid hD9
            obtain ⟨E9, hE9⟩ : ∃ y, (parD (guessR x1) x1).2 = y := ⟨_, rfl⟩
            have HE9 := Lib.hid hE9
            clear hD9 hE9
            have HFN := Lib.hid (show R = ⟨4, 0, 0, 0, false, 0, 0, D9⟩ by
              rw [← HR.out, guessG]
              rw [HW0.out, if_neg q0, if_neg q1, if_neg q2, if_pos q3, HX1.out, HD9.out])
            clear q0 q1 q2 q3
            go_wp2_with (fail)
            have hcall := word8_r ws A c 1 w1 HLW.out (by decide) (HRD.out.to H1.out.bl)
            rw [HX1.out] at hcall
            refine hcall.mono ?_
            clear hcall
            rintro e wz ⟨rfl, rfl⟩
            go_wp2_with (fail)
            refine (parse7_r x1 HXL.out w1).mono ?_
            rintro e w9 ⟨rfl, hb9⟩
            rw [HD9.out, HE9.out]
            obtain ⟨w8, hw8⟩ : ∃ y, w9.alloc (.cells (delE D9).toArray 27) = y := ⟨_, rfl⟩
            have H8 := Lib.hid (show GSt b h w w8 zeroE by rw [← hw8]; exact (H1.out.to hb9).to (cur_new _ _))
            have HDB := Lib.hid (show Blk w8 w9.heap.size 27 (delE D9) by rw [← hw8]; exact Blk.new w9 _ _)
            have SW8 := Lib.hid hw8
            clear hw8 hb9
            go_wp2_with (first | (refine wpList_storeNew rfl _ _ 27 rfl _ (delE D9).toArray api_info (by rfl) (by rfl) rfl (api_one _) ?_; rw [SW8.out]) | (refine wpList_loadC rfl _ 27 rfl w9.heap.size 27 [.int .u8 D9.ty, .int .u8 D9.src, .int .i64 D9.runs, .int .i64 D9.short, .int .i64 D9.bd, .bool D9.cr, .int .u8 D9.how, .int .i64 D9.vic, .int .i64 D9.fd, .int .i64 D9.sd, .bool D9.sub, .int .i64 D9.sec] _ rfl (by rfl) (by rfl) (by rfl) HDB.out ?_) | (refine wpList_storeC rfl _ _ 29 rfl b 29 (evE zeroE) (evE ⟨4, 0, 0, 0, false, 0, 0, D9⟩).toArray evt_info (by rfl) (by rfl) H8.out.ev rfl (evt_one _) ?_))
            go_meet
            case rel =>
              rw [HFN.out]
              exact H8.out.row HWB.out hne _
          · have g3 : (s0.toList == [66, 65, 76, 76]) = false := by rw [← HS0.out]; exact str_no q3
            by_cases q4 : w0 = [69, 78, 84, 69, 82]
            · have g4 : (s0.toList == [69, 78, 84, 69, 82]) = true := by rw [← HS0.out]; exact str_yes q4
              obtain ⟨n0, hn0⟩ : ∃ y, numF ws 1 = y := ⟨_, rfl⟩
              have HN0 := Lib.hid hn0
              clear hn0
              have HFN := Lib.hid (show R = ⟨5, 0, n0, 0, false, 0, 0, zeroD⟩ by
                rw [← HR.out, guessG]
                rw [HW0.out, if_neg q0, if_neg q1, if_neg q2, if_neg q3, if_pos (Or.inl q4), ← HN0.out]
                have e9 : decide (w0 = [84, 73, 77, 69, 79, 85, 84]) = false := by rw [q4]; rfl
                rw [e9])
              have hne0 : ∃ x, ws[0]? = some x ∧ x = w0 := by
                have h9 := HW0.out
                unfold wordF at h9
                rw [List.getD_eq_getElem?_getD] at h9
                cases hx : ws[0]? with
                | none => rw [hx] at h9; rw [q4] at h9; cases h9
                | some x => exact ⟨x, rfl, by rw [hx] at h9; exact h9⟩
              obtain ⟨x9, hx9, hxe⟩ := hne0
              subst hxe
              obtain ⟨bb, off, hA9, hbb, hcc⟩ := HRD.out.to H1.out.bl 0 x9 hx9
              have hd0 : w1.cell? ⟨bb, off, none⟩ = some (.string s0) := by rw [← HS0.out]; simpa using hcc 0 _ rfl
              have HD0 := Lib.hid hd0
              have hd1 : w1.drew.cell? ⟨bb, off, none⟩ = some (.string s0) := hd0
              subst hA9
              have gt : (s0.toList == [84, 73, 77, 69, 79, 85, 84]) = false := by rw [← HS0.out, str_dec, q4]; rfl
              have hw0l : 0 < ws.length := (List.getElem?_eq_some_iff.1 hx9).1
              obtain ⟨N, hN⟩ : ∃ N : Nat, 19 = N := ⟨_, rfl⟩
              have hA : ∀ w, Sem.run Tryz.prog (isAgg 29) w = .ok true w := fun w => Tryz.isAgg29 w
              have hZ : ∀ w, Sem.run Tryz.prog (sizeOf 29) w = .ok N w := fun w => by rw [← hN]; exact Tryz.sizeOf29 w
              have hlen : (19 = N) = True := eq_true hN
              have HRD1 := Lib.hid (HRD.out.to H1.out.drew.bl)
              clear hcc hx9 hN hd0
              clear q0 q1 q2 q3 q4
              go_wp2_with (fail)
              refine wp_region_any (by kernel_rfl) ?_
              try (change wpAny _ _ _ _ _ _ _ (World.drew _))
              refine wpAny_take (i := 0) (v := ?_) rfl (by kernel_rfl) (by kernel_rfl) (by kernel_rfl) (fun _ _ _ h => h) (Or.inl ⟨by rfl, ?_⟩) ?_
              rotate_left
              · intro w
                go_simp
                try with_reducible rfl
              refine wpAny_take (i := 2) (v := ?_) rfl (by kernel_rfl) (by kernel_rfl) (by kernel_rfl) (fun _ _ _ h => h) (Or.inl ⟨by rfl, ?_⟩) ?_
              rotate_left
              · intro w
                go_simp
                try with_reducible rfl
              have hcall := number8_r ws _ c 1 w1.drew HLW.out (by decide) HZ.out HRD1.out
              rw [HN0.out] at hcall
              have HCL := Lib.hid hcall
              clear hcall
              refine wpAny_ready (rs := [1, 3]) (by kernel_rfl) (by simp) ?_
              refine AllReady.cons rfl (fun K hK => ?_) (AllReady.cons rfl (fun K hK => ?_) AllReady.nil)
              · go_simp
                refine HCL.out.mono ?_
                rintro e' w9 ⟨rfl, qb⟩
                have H9 := Lib.hid (H1.out.drew.to qb)
                have hd9 : w9.cell? ⟨bb, off, none⟩ = some (.string s0) := (qb.cell (p := ⟨bb, off, none⟩) hbb).trans HD0.out
                dsimp only
                refine hK _ _ ?_
                clear hK K
                refine wpAny_ready (rs := [3]) (by kernel_rfl) (by simp) ?_
                refine AllReady.cons rfl (fun K hK => ?_) AllReady.nil
                go_simp
                refine hK _ _ ?_
                clear hK K
                refine wpAny_ready (rs := [4]) (by kernel_rfl) (by simp) ?_
                refine AllReady.cons rfl (fun K hK => ?_) AllReady.nil
                go_simp
                refine hK _ _ ?_
                clear hK K
                refine wpAny_ready (rs := [5]) (by kernel_rfl) (by simp) ?_
                refine AllReady.cons rfl (fun K hK => ?_) AllReady.nil
                go_simp
                refine hK _ _ ?_
                clear hK K
                refine wpAny_ready (rs := [6]) (by kernel_rfl) (by simp) ?_
                refine AllReady.cons rfl (fun K hK => ?_) AllReady.nil
                go_simp
                refine hK _ _ ?_
                clear hK K
                refine wpAny_ready (rs := [7]) (by kernel_rfl) (by simp) ?_
                refine AllReady.cons rfl (fun K hK => ?_) AllReady.nil
                refine step_storeC (by rfl) _ _ 29 (by rfl) b 29 (evE zeroE) (evE ⟨5, 0, n0, 0, false, 0, 0, zeroD⟩).toArray evt_info (by rfl) (by rfl) H9.out.ev rfl (evt_one _) ?_
                refine hK _ _ ?_
                clear hK K
                refine wpAny_done (by kernel_rfl) ?_ _
                go_wp2_with (fail)
                go_meet
                case rel =>
                  rw [HFN.out]
                  exact H9.out.row HWB.out hne _
              · go_simp
                refine hK _ _ ?_
                clear hK K
                refine wpAny_ready (rs := [1, 4]) (by kernel_rfl) (by simp) ?_
                refine AllReady.cons rfl (fun K hK => ?_) (AllReady.cons rfl (fun K hK => ?_) AllReady.nil)
                · go_simp
                  refine HCL.out.mono ?_
                  rintro e' w9 ⟨rfl, qb⟩
                  have H9 := Lib.hid (H1.out.drew.to qb)
                  have hd9 : w9.cell? ⟨bb, off, none⟩ = some (.string s0) := (qb.cell (p := ⟨bb, off, none⟩) hbb).trans HD0.out
                  dsimp only
                  refine hK _ _ ?_
                  clear hK K
                  refine wpAny_ready (rs := [4]) (by kernel_rfl) (by simp) ?_
                  refine AllReady.cons rfl (fun K hK => ?_) AllReady.nil
                  go_simp
                  refine hK _ _ ?_
                  clear hK K
                  refine wpAny_ready (rs := [5]) (by kernel_rfl) (by simp) ?_
                  refine AllReady.cons rfl (fun K hK => ?_) AllReady.nil
                  go_simp
                  refine hK _ _ ?_
                  clear hK K
                  refine wpAny_ready (rs := [6]) (by kernel_rfl) (by simp) ?_
                  refine AllReady.cons rfl (fun K hK => ?_) AllReady.nil
                  go_simp
                  refine hK _ _ ?_
                  clear hK K
                  refine wpAny_ready (rs := [7]) (by kernel_rfl) (by simp) ?_
                  refine AllReady.cons rfl (fun K hK => ?_) AllReady.nil
                  refine step_storeC (by rfl) _ _ 29 (by rfl) b 29 (evE zeroE) (evE ⟨5, 0, n0, 0, false, 0, 0, zeroD⟩).toArray evt_info (by rfl) (by rfl) H9.out.ev rfl (evt_one _) ?_
                  refine hK _ _ ?_
                  clear hK K
                  refine wpAny_done (by kernel_rfl) ?_ _
                  go_wp2_with (fail)
                  go_meet
                  case rel =>
                    rw [HFN.out]
                    exact H9.out.row HWB.out hne _
                · go_simp
                  refine hK _ _ ?_
                  clear hK K
                  refine wpAny_ready (rs := [1, 5]) (by kernel_rfl) (by simp) ?_
                  refine AllReady.cons rfl (fun K hK => ?_) (AllReady.cons rfl (fun K hK => ?_) AllReady.nil)
                  · go_simp
                    refine HCL.out.mono ?_
                    rintro e' w9 ⟨rfl, qb⟩
                    have H9 := Lib.hid (H1.out.drew.to qb)
                    dsimp only
                    refine hK _ _ ?_
                    clear hK K
                    refine wpAny_ready (rs := [5]) (by kernel_rfl) (by simp) ?_
                    refine AllReady.cons rfl (fun K hK => ?_) AllReady.nil
                    go_simp
                    refine hK _ _ ?_
                    clear hK K
                    refine wpAny_ready (rs := [6]) (by kernel_rfl) (by simp) ?_
                    refine AllReady.cons rfl (fun K hK => ?_) AllReady.nil
                    go_simp
                    refine hK _ _ ?_
                    clear hK K
                    refine wpAny_ready (rs := [7]) (by kernel_rfl) (by simp) ?_
                    refine AllReady.cons rfl (fun K hK => ?_) AllReady.nil
                    refine step_storeC (by rfl) _ _ 29 (by rfl) b 29 (evE zeroE) (evE ⟨5, 0, n0, 0, false, 0, 0, zeroD⟩).toArray evt_info (by rfl) (by rfl) H9.out.ev rfl (evt_one _) ?_
                    refine hK _ _ ?_
                    clear hK K
                    refine wpAny_done (by kernel_rfl) ?_ _
                    go_wp2_with (fail)
                    go_meet
                    case rel =>
                      rw [HFN.out]
                      exact H9.out.row HWB.out hne _
                  · go_simp
                    refine hK _ _ ?_
                    clear hK K
                    refine wpAny_ready (rs := [1]) (by kernel_rfl) (by simp) ?_
                    refine AllReady.cons rfl (fun K hK => ?_) AllReady.nil
                    go_simp
                    refine HCL.out.mono ?_
                    rintro e' w9 ⟨rfl, qb⟩
                    have H9 := Lib.hid (H1.out.drew.to qb)
                    dsimp only
                    refine hK _ _ ?_
                    clear hK K
                    refine wpAny_ready (rs := [6]) (by kernel_rfl) (by simp) ?_
                    refine AllReady.cons rfl (fun K hK => ?_) AllReady.nil
                    go_simp
                    refine hK _ _ ?_
                    clear hK K
                    refine wpAny_ready (rs := [7]) (by kernel_rfl) (by simp) ?_
                    refine AllReady.cons rfl (fun K hK => ?_) AllReady.nil
                    refine step_storeC (by rfl) _ _ 29 (by rfl) b 29 (evE zeroE) (evE ⟨5, 0, n0, 0, false, 0, 0, zeroD⟩).toArray evt_info (by rfl) (by rfl) H9.out.ev rfl (evt_one _) ?_
                    refine hK _ _ ?_
                    clear hK K
                    refine wpAny_done (by kernel_rfl) ?_ _
                    go_wp2_with (fail)
                    go_meet
                    case rel =>
                      rw [HFN.out]
                      exact H9.out.row HWB.out hne _
            · have g4 : (s0.toList == [69, 78, 84, 69, 82]) = false := by rw [← HS0.out]; exact str_no q4
              by_cases q5 : w0 = [84, 73, 77, 69, 79, 85, 84]
              · have g5 : (s0.toList == [84, 73, 77, 69, 79, 85, 84]) = true := by rw [← HS0.out]; exact str_yes q5
                obtain ⟨n0, hn0⟩ : ∃ y, numF ws 1 = y := ⟨_, rfl⟩
                have HN0 := Lib.hid hn0
                clear hn0
                have HFN := Lib.hid (show R = ⟨5, 0, n0, 0, true, 0, 0, zeroD⟩ by
                  rw [← HR.out, guessG]
                  rw [HW0.out, if_neg q0, if_neg q1, if_neg q2, if_neg q3, if_pos (Or.inr q5), ← HN0.out]
                  have e9 : decide (w0 = [84, 73, 77, 69, 79, 85, 84]) = true := by rw [q5]; rfl
                  rw [e9])
                have hne0 : ∃ x, ws[0]? = some x ∧ x = w0 := by
                  have h9 := HW0.out
                  unfold wordF at h9
                  rw [List.getD_eq_getElem?_getD] at h9
                  cases hx : ws[0]? with
                  | none => rw [hx] at h9; rw [q5] at h9; cases h9
                  | some x => exact ⟨x, rfl, by rw [hx] at h9; exact h9⟩
                obtain ⟨x9, hx9, hxe⟩ := hne0
                subst hxe
                obtain ⟨bb, off, hA9, hbb, hcc⟩ := HRD.out.to H1.out.bl 0 x9 hx9
                have hd0 : w1.cell? ⟨bb, off, none⟩ = some (.string s0) := by rw [← HS0.out]; simpa using hcc 0 _ rfl
                have HD0 := Lib.hid hd0
                have hd1 : w1.drew.cell? ⟨bb, off, none⟩ = some (.string s0) := hd0
                subst hA9
                have gt : (s0.toList == [84, 73, 77, 69, 79, 85, 84]) = true := by rw [← HS0.out, str_dec, q5]; rfl
                have hw0l : 0 < ws.length := (List.getElem?_eq_some_iff.1 hx9).1
                obtain ⟨N, hN⟩ : ∃ N : Nat, 19 = N := ⟨_, rfl⟩
                have hA : ∀ w, Sem.run Tryz.prog (isAgg 29) w = .ok true w := fun w => Tryz.isAgg29 w
                have hZ : ∀ w, Sem.run Tryz.prog (sizeOf 29) w = .ok N w := fun w => by rw [← hN]; exact Tryz.sizeOf29 w
                have hlen : (19 = N) = True := eq_true hN
                have HRD1 := Lib.hid (HRD.out.to H1.out.drew.bl)
                clear hcc hx9 hN hd0
                clear q0 q1 q2 q3 q4 q5
                go_wp2_with (fail)
                refine wp_region_any (by kernel_rfl) ?_
                try (change wpAny _ _ _ _ _ _ _ (World.drew _))
                refine wpAny_take (i := 0) (v := ?_) rfl (by kernel_rfl) (by kernel_rfl) (by kernel_rfl) (fun _ _ _ h => h) (Or.inl ⟨by rfl, ?_⟩) ?_
                rotate_left
                · intro w
                  go_simp
                  try with_reducible rfl
                refine wpAny_take (i := 2) (v := ?_) rfl (by kernel_rfl) (by kernel_rfl) (by kernel_rfl) (fun _ _ _ h => h) (Or.inl ⟨by rfl, ?_⟩) ?_
                rotate_left
                · intro w
                  go_simp
                  try with_reducible rfl
                have hcall := number8_r ws _ c 1 w1.drew HLW.out (by decide) HZ.out HRD1.out
                rw [HN0.out] at hcall
                have HCL := Lib.hid hcall
                clear hcall
                refine wpAny_ready (rs := [1, 3]) (by kernel_rfl) (by simp) ?_
                refine AllReady.cons rfl (fun K hK => ?_) (AllReady.cons rfl (fun K hK => ?_) AllReady.nil)
                · go_simp
                  refine HCL.out.mono ?_
                  rintro e' w9 ⟨rfl, qb⟩
                  have H9 := Lib.hid (H1.out.drew.to qb)
                  have hd9 : w9.cell? ⟨bb, off, none⟩ = some (.string s0) := (qb.cell (p := ⟨bb, off, none⟩) hbb).trans HD0.out
                  dsimp only
                  refine hK _ _ ?_
                  clear hK K
                  refine wpAny_ready (rs := [3]) (by kernel_rfl) (by simp) ?_
                  refine AllReady.cons rfl (fun K hK => ?_) AllReady.nil
                  go_simp
                  refine hK _ _ ?_
                  clear hK K
                  refine wpAny_ready (rs := [4]) (by kernel_rfl) (by simp) ?_
                  refine AllReady.cons rfl (fun K hK => ?_) AllReady.nil
                  go_simp
                  refine hK _ _ ?_
                  clear hK K
                  refine wpAny_ready (rs := [5]) (by kernel_rfl) (by simp) ?_
                  refine AllReady.cons rfl (fun K hK => ?_) AllReady.nil
                  go_simp
                  refine hK _ _ ?_
                  clear hK K
                  refine wpAny_ready (rs := [6]) (by kernel_rfl) (by simp) ?_
                  refine AllReady.cons rfl (fun K hK => ?_) AllReady.nil
                  go_simp
                  refine hK _ _ ?_
                  clear hK K
                  refine wpAny_ready (rs := [7]) (by kernel_rfl) (by simp) ?_
                  refine AllReady.cons rfl (fun K hK => ?_) AllReady.nil
                  refine step_storeC (by rfl) _ _ 29 (by rfl) b 29 (evE zeroE) (evE ⟨5, 0, n0, 0, true, 0, 0, zeroD⟩).toArray evt_info (by rfl) (by rfl) H9.out.ev rfl (evt_one _) ?_
                  refine hK _ _ ?_
                  clear hK K
                  refine wpAny_done (by kernel_rfl) ?_ _
                  go_wp2_with (fail)
                  go_meet
                  case rel =>
                    rw [HFN.out]
                    exact H9.out.row HWB.out hne _
                · go_simp
                  refine hK _ _ ?_
                  clear hK K
                  refine wpAny_ready (rs := [1, 4]) (by kernel_rfl) (by simp) ?_
                  refine AllReady.cons rfl (fun K hK => ?_) (AllReady.cons rfl (fun K hK => ?_) AllReady.nil)
                  · go_simp
                    refine HCL.out.mono ?_
                    rintro e' w9 ⟨rfl, qb⟩
                    have H9 := Lib.hid (H1.out.drew.to qb)
                    have hd9 : w9.cell? ⟨bb, off, none⟩ = some (.string s0) := (qb.cell (p := ⟨bb, off, none⟩) hbb).trans HD0.out
                    dsimp only
                    refine hK _ _ ?_
                    clear hK K
                    refine wpAny_ready (rs := [4]) (by kernel_rfl) (by simp) ?_
                    refine AllReady.cons rfl (fun K hK => ?_) AllReady.nil
                    go_simp
                    refine hK _ _ ?_
                    clear hK K
                    refine wpAny_ready (rs := [5]) (by kernel_rfl) (by simp) ?_
                    refine AllReady.cons rfl (fun K hK => ?_) AllReady.nil
                    go_simp
                    refine hK _ _ ?_
                    clear hK K
                    refine wpAny_ready (rs := [6]) (by kernel_rfl) (by simp) ?_
                    refine AllReady.cons rfl (fun K hK => ?_) AllReady.nil
                    go_simp
                    refine hK _ _ ?_
                    clear hK K
                    refine wpAny_ready (rs := [7]) (by kernel_rfl) (by simp) ?_
                    refine AllReady.cons rfl (fun K hK => ?_) AllReady.nil
                    refine step_storeC (by rfl) _ _ 29 (by rfl) b 29 (evE zeroE) (evE ⟨5, 0, n0, 0, true, 0, 0, zeroD⟩).toArray evt_info (by rfl) (by rfl) H9.out.ev rfl (evt_one _) ?_
                    refine hK _ _ ?_
                    clear hK K
                    refine wpAny_done (by kernel_rfl) ?_ _
                    go_wp2_with (fail)
                    go_meet
                    case rel =>
                      rw [HFN.out]
                      exact H9.out.row HWB.out hne _
                  · go_simp
                    refine hK _ _ ?_
                    clear hK K
                    refine wpAny_ready (rs := [1, 5]) (by kernel_rfl) (by simp) ?_
                    refine AllReady.cons rfl (fun K hK => ?_) (AllReady.cons rfl (fun K hK => ?_) AllReady.nil)
                    · go_simp
                      refine HCL.out.mono ?_
                      rintro e' w9 ⟨rfl, qb⟩
                      have H9 := Lib.hid (H1.out.drew.to qb)
                      dsimp only
                      refine hK _ _ ?_
                      clear hK K
                      refine wpAny_ready (rs := [5]) (by kernel_rfl) (by simp) ?_
                      refine AllReady.cons rfl (fun K hK => ?_) AllReady.nil
                      go_simp
                      refine hK _ _ ?_
                      clear hK K
                      refine wpAny_ready (rs := [6]) (by kernel_rfl) (by simp) ?_
                      refine AllReady.cons rfl (fun K hK => ?_) AllReady.nil
                      go_simp
                      refine hK _ _ ?_
                      clear hK K
                      refine wpAny_ready (rs := [7]) (by kernel_rfl) (by simp) ?_
                      refine AllReady.cons rfl (fun K hK => ?_) AllReady.nil
                      refine step_storeC (by rfl) _ _ 29 (by rfl) b 29 (evE zeroE) (evE ⟨5, 0, n0, 0, true, 0, 0, zeroD⟩).toArray evt_info (by rfl) (by rfl) H9.out.ev rfl (evt_one _) ?_
                      refine hK _ _ ?_
                      clear hK K
                      refine wpAny_done (by kernel_rfl) ?_ _
                      go_wp2_with (fail)
                      go_meet
                      case rel =>
                        rw [HFN.out]
                        exact H9.out.row HWB.out hne _
                    · go_simp
                      refine hK _ _ ?_
                      clear hK K
                      refine wpAny_ready (rs := [1]) (by kernel_rfl) (by simp) ?_
                      refine AllReady.cons rfl (fun K hK => ?_) AllReady.nil
                      go_simp
                      refine HCL.out.mono ?_
                      rintro e' w9 ⟨rfl, qb⟩
                      have H9 := Lib.hid (H1.out.drew.to qb)
                      dsimp only
                      refine hK _ _ ?_
                      clear hK K
                      refine wpAny_ready (rs := [6]) (by kernel_rfl) (by simp) ?_
                      refine AllReady.cons rfl (fun K hK => ?_) AllReady.nil
                      go_simp
                      refine hK _ _ ?_
                      clear hK K
                      refine wpAny_ready (rs := [7]) (by kernel_rfl) (by simp) ?_
                      refine AllReady.cons rfl (fun K hK => ?_) AllReady.nil
                      refine step_storeC (by rfl) _ _ 29 (by rfl) b 29 (evE zeroE) (evE ⟨5, 0, n0, 0, true, 0, 0, zeroD⟩).toArray evt_info (by rfl) (by rfl) H9.out.ev rfl (evt_one _) ?_
                      refine hK _ _ ?_
                      clear hK K
                      refine wpAny_done (by kernel_rfl) ?_ _
                      go_wp2_with (fail)
                      go_meet
                      case rel =>
                        rw [HFN.out]
                        exact H9.out.row HWB.out hne _
              · have g5 : (s0.toList == [84, 73, 77, 69, 79, 85, 84]) = false := by rw [← HS0.out]; exact str_no q5
                by_cases q6 : w0 = [82, 69, 84, 73, 82, 69]
                · have g6 : (s0.toList == [82, 69, 84, 73, 82, 69]) = true := by rw [← HS0.out]; exact str_yes q6
                  obtain ⟨n0, hn0⟩ : ∃ y, numF ws 1 = y := ⟨_, rfl⟩
                  have HN0 := Lib.hid hn0
                  clear hn0
                  obtain ⟨x1, hx1⟩ : ∃ y, wordF ws 2 = y := ⟨_, rfl⟩
                  have HX1 := Lib.hid hx1
                  clear hx1
                  obtain ⟨sx1, hsx1⟩ : ∃ y, sA x1 = y := ⟨_, rfl⟩
                  have HSX1 := Lib.hid hsx1
                  clear hsx1
                  obtain ⟨y1, hy1⟩ : ∃ y, decide (x1 = [72, 85, 82, 84]) = y := ⟨_, rfl⟩
                  have gy1 : (sx1.toList == [72, 85, 82, 84]) = y1 := by rw [← hy1, ← HSX1.out]; exact str_dec _ _
                  have HY1 := Lib.hid hy1
                  clear hy1
                  have HFN := Lib.hid (show R = ⟨6, 0, n0, 0, y1, 0, 0, zeroD⟩ by
                    rw [← HR.out, guessG]
                    rw [HW0.out, if_neg q0, if_neg q1, if_neg q2, if_neg q3, if_neg (fun q => q.elim q4 q5), if_pos q6]
                    rw [← HN0.out, ← HY1.out, ← HX1.out])
                  clear q0 q1 q2 q3 q4 q5 q6
                  go_wp2_with (fail)
                  have hcall := number8_r ws A c 1 w1 HLW.out (by decide) HZ.out (HRD.out.to H1.out.bl)
                  rw [HN0.out] at hcall
                  refine hcall.mono ?_
                  clear hcall
                  rintro e wq0 ⟨rfl, hbq0⟩
                  have H2 := Lib.hid (H1.out.to hbq0)
                  clear hbq0
                  go_wp2_with (fail)
                  have hcall := word8_r ws A c 2 wq0 HLW.out (by decide) (HRD.out.to H2.out.bl)
                  rw [HX1.out, HSX1.out] at hcall
                  refine hcall.mono ?_
                  clear hcall
                  rintro e wz ⟨rfl, rfl⟩
                  go_wp2_with (refine wpList_storeC rfl _ _ 29 rfl b 29 (evE zeroE) (evE ⟨6, 0, n0, 0, y1, 0, 0, zeroD⟩).toArray evt_info (by rfl) (by rfl) H2.out.ev rfl (evt_one _) ?_)
                  go_meet
                  case rel =>
                    rw [HFN.out]
                    exact H2.out.row HWB.out hne _
                · have g6 : (s0.toList == [82, 69, 84, 73, 82, 69]) = false := by rw [← HS0.out]; exact str_no q6
                  by_cases q7 : w0 = [70, 73, 69, 76, 68]
                  · have g7 : (s0.toList == [70, 73, 69, 76, 68]) = true := by rw [← HS0.out]; exact str_yes q7
                    obtain ⟨n0, hn0⟩ : ∃ y, numF ws 1 = y := ⟨_, rfl⟩
                    have HN0 := Lib.hid hn0
                    clear hn0
                    have HFN := Lib.hid (show R = ⟨7, 0, 0, 0, false, n0, 0, zeroD⟩ by
                      rw [← HR.out, guessG]
                      rw [HW0.out, if_neg q0, if_neg q1, if_neg q2, if_neg q3, if_neg (fun q => q.elim q4 q5), if_neg q6, if_pos q7]
                      rw [← HN0.out])
                    clear q0 q1 q2 q3 q4 q5 q6 q7
                    go_wp2_with (fail)
                    have hcall := number8_r ws A c 1 w1 HLW.out (by decide) HZ.out (HRD.out.to H1.out.bl)
                    rw [HN0.out] at hcall
                    refine hcall.mono ?_
                    clear hcall
                    rintro e wq0 ⟨rfl, hbq0⟩
                    have H2 := Lib.hid (H1.out.to hbq0)
                    clear hbq0
                    go_wp2_with (refine wpList_storeC rfl _ _ 29 rfl b 29 (evE zeroE) (evE ⟨7, 0, 0, 0, false, n0, 0, zeroD⟩).toArray evt_info (by rfl) (by rfl) H2.out.ev rfl (evt_one _) ?_)
                    go_meet
                    case rel =>
                      rw [HFN.out]
                      exact H2.out.row HWB.out hne _
                  · have g7 : (s0.toList == [70, 73, 69, 76, 68]) = false := by rw [← HS0.out]; exact str_no q7
                    by_cases q8 : w0 = [75, 69, 69, 80, 69, 82]
                    · have g8 : (s0.toList == [75, 69, 69, 80, 69, 82]) = true := by rw [← HS0.out]; exact str_yes q8
                      obtain ⟨n0, hn0⟩ : ∃ y, numF ws 1 = y := ⟨_, rfl⟩
                      have HN0 := Lib.hid hn0
                      clear hn0
                      have HFN := Lib.hid (show R = ⟨8, 0, n0, 0, false, 0, 0, zeroD⟩ by
                        rw [← HR.out, guessG]
                        rw [HW0.out, if_neg q0, if_neg q1, if_neg q2, if_neg q3, if_neg (fun q => q.elim q4 q5), if_neg q6, if_neg q7, if_pos q8]
                        rw [← HN0.out])
                      clear q0 q1 q2 q3 q4 q5 q6 q7 q8
                      go_wp2_with (fail)
                      have hcall := number8_r ws A c 1 w1 HLW.out (by decide) HZ.out (HRD.out.to H1.out.bl)
                      rw [HN0.out] at hcall
                      refine hcall.mono ?_
                      clear hcall
                      rintro e wq0 ⟨rfl, hbq0⟩
                      have H2 := Lib.hid (H1.out.to hbq0)
                      clear hbq0
                      go_wp2_with (refine wpList_storeC rfl _ _ 29 rfl b 29 (evE zeroE) (evE ⟨8, 0, n0, 0, false, 0, 0, zeroD⟩).toArray evt_info (by rfl) (by rfl) H2.out.ev rfl (evt_one _) ?_)
                      go_meet
                      case rel =>
                        rw [HFN.out]
                        exact H2.out.row HWB.out hne _
                    · have g8 : (s0.toList == [75, 69, 69, 80, 69, 82]) = false := by rw [← HS0.out]; exact str_no q8
                      by_cases q9 : w0 = [83, 85, 66]
                      · have g9 : (s0.toList == [83, 85, 66]) = true := by rw [← HS0.out]; exact str_yes q9
                        obtain ⟨n0, hn0⟩ : ∃ y, numF ws 1 = y := ⟨_, rfl⟩
                        have HN0 := Lib.hid hn0
                        clear hn0
                        obtain ⟨x1, hx1⟩ : ∃ y, wordF ws 2 = y := ⟨_, rfl⟩
                        have HX1 := Lib.hid hx1
                        clear hx1
                        obtain ⟨sx1, hsx1⟩ : ∃ y, sA x1 = y := ⟨_, rfl⟩
                        have HSX1 := Lib.hid hsx1
                        clear hsx1
                        obtain ⟨y1, hy1⟩ : ∃ y, decide (x1 = [79, 78]) = y := ⟨_, rfl⟩
                        have gy1 : (sx1.toList == [79, 78]) = y1 := by rw [← hy1, ← HSX1.out]; exact str_dec _ _
                        have HY1 := Lib.hid hy1
                        clear hy1
                        have HFN := Lib.hid (show R = ⟨9, 0, n0, 0, y1, 0, 0, zeroD⟩ by
                          rw [← HR.out, guessG]
                          rw [HW0.out, if_neg q0, if_neg q1, if_neg q2, if_neg q3, if_neg (fun q => q.elim q4 q5), if_neg q6, if_neg q7, if_neg q8, if_pos q9]
                          rw [← HN0.out, ← HY1.out, ← HX1.out])
                        clear q0 q1 q2 q3 q4 q5 q6 q7 q8 q9
                        go_wp2_with (fail)
                        have hcall := number8_r ws A c 1 w1 HLW.out (by decide) HZ.out (HRD.out.to H1.out.bl)
                        rw [HN0.out] at hcall
                        refine hcall.mono ?_
                        clear hcall
                        rintro e wq0 ⟨rfl, hbq0⟩
                        have H2 := Lib.hid (H1.out.to hbq0)
                        clear hbq0
                        go_wp2_with (fail)
                        have hcall := word8_r ws A c 2 wq0 HLW.out (by decide) (HRD.out.to H2.out.bl)
                        rw [HX1.out, HSX1.out] at hcall
                        refine hcall.mono ?_
                        clear hcall
                        rintro e wz ⟨rfl, rfl⟩
                        go_wp2_with (refine wpList_storeC rfl _ _ 29 rfl b 29 (evE zeroE) (evE ⟨9, 0, n0, 0, y1, 0, 0, zeroD⟩).toArray evt_info (by rfl) (by rfl) H2.out.ev rfl (evt_one _) ?_)
                        go_meet
                        case rel =>
                          rw [HFN.out]
                          exact H2.out.row HWB.out hne _
                      · have g9 : (s0.toList == [83, 85, 66]) = false := by rw [← HS0.out]; exact str_no q9
                        by_cases q10 : w0 = [78, 69, 87, 66, 65, 76, 76]
                        · have g10 : (s0.toList == [78, 69, 87, 66, 65, 76, 76]) = true := by rw [← HS0.out]; exact str_yes q10
                          have HFN := Lib.hid (show R = ⟨10, 0, 0, 0, false, 0, 0, zeroD⟩ by
                            rw [← HR.out, guessG]
                            rw [HW0.out, if_neg q0, if_neg q1, if_neg q2, if_neg q3, if_neg (fun q => q.elim q4 q5), if_neg q6, if_neg q7, if_neg q8, if_neg q9, if_pos q10]
                            skip)
                          clear q0 q1 q2 q3 q4 q5 q6 q7 q8 q9 q10
                          go_wp2_with (refine wpList_storeC rfl _ _ 29 rfl b 29 (evE zeroE) (evE ⟨10, 0, 0, 0, false, 0, 0, zeroD⟩).toArray evt_info (by rfl) (by rfl) H1.out.ev rfl (evt_one _) ?_)
                          go_meet
                          case rel =>
                            rw [HFN.out]
                            exact H1.out.row HWB.out hne _
                        · have g10 : (s0.toList == [78, 69, 87, 66, 65, 76, 76]) = false := by rw [← HS0.out]; exact str_no q10
                          by_cases q11 : w0 = [68, 69, 67, 76, 65, 82, 69]
                          · have g11 : (s0.toList == [68, 69, 67, 76, 65, 82, 69]) = true := by rw [← HS0.out]; exact str_yes q11
                            obtain ⟨n0, hn0⟩ : ∃ y, numF ws 1 = y := ⟨_, rfl⟩
                            have HN0 := Lib.hid hn0
                            clear hn0
                            have HFN := Lib.hid (show R = ⟨11, n0, 0, 0, false, 0, 0, zeroD⟩ by
                              rw [← HR.out, guessG]
                              rw [HW0.out, if_neg q0, if_neg q1, if_neg q2, if_neg q3, if_neg (fun q => q.elim q4 q5), if_neg q6, if_neg q7, if_neg q8, if_neg q9, if_neg q10, if_pos q11]
                              rw [← HN0.out])
                            clear q0 q1 q2 q3 q4 q5 q6 q7 q8 q9 q10 q11
                            go_wp2_with (fail)
                            have hcall := number8_r ws A c 1 w1 HLW.out (by decide) HZ.out (HRD.out.to H1.out.bl)
                            rw [HN0.out] at hcall
                            refine hcall.mono ?_
                            clear hcall
                            rintro e wq0 ⟨rfl, hbq0⟩
                            have H2 := Lib.hid (H1.out.to hbq0)
                            clear hbq0
                            go_wp2_with (refine wpList_storeC rfl _ _ 29 rfl b 29 (evE zeroE) (evE ⟨11, n0, 0, 0, false, 0, 0, zeroD⟩).toArray evt_info (by rfl) (by rfl) H2.out.ev rfl (evt_one _) ?_)
                            go_meet
                            case rel =>
                              rw [HFN.out]
                              exact H2.out.row HWB.out hne _
                          · have g11 : (s0.toList == [68, 69, 67, 76, 65, 82, 69]) = false := by rw [← HS0.out]; exact str_no q11
                            by_cases q12 : w0 = [70, 79, 76, 76, 79, 87]
                            · have g12 : (s0.toList == [70, 79, 76, 76, 79, 87]) = true := by rw [← HS0.out]; exact str_yes q12
                              obtain ⟨n0, hn0⟩ : ∃ y, numF ws 1 = y := ⟨_, rfl⟩
                              have HN0 := Lib.hid hn0
                              clear hn0
                              obtain ⟨x1, hx1⟩ : ∃ y, wordF ws 2 = y := ⟨_, rfl⟩
                              have HX1 := Lib.hid hx1
                              clear hx1
                              obtain ⟨sx1, hsx1⟩ : ∃ y, sA x1 = y := ⟨_, rfl⟩
                              have HSX1 := Lib.hid hsx1
                              clear hsx1
                              obtain ⟨y1, hy1⟩ : ∃ y, decide (x1 = [89, 69, 83]) = y := ⟨_, rfl⟩
                              have gy1 : (sx1.toList == [89, 69, 83]) = y1 := by rw [← hy1, ← HSX1.out]; exact str_dec _ _
                              have HY1 := Lib.hid hy1
                              clear hy1
                              have HFN := Lib.hid (show R = ⟨12, n0, 0, 0, y1, 0, 0, zeroD⟩ by
                                rw [← HR.out, guessG]
                                rw [HW0.out, if_neg q0, if_neg q1, if_neg q2, if_neg q3, if_neg (fun q => q.elim q4 q5), if_neg q6, if_neg q7, if_neg q8, if_neg q9, if_neg q10, if_neg q11, if_pos q12]
                                rw [← HN0.out, ← HY1.out, ← HX1.out])
                              clear q0 q1 q2 q3 q4 q5 q6 q7 q8 q9 q10 q11 q12
                              go_wp2_with (fail)
                              have hcall := number8_r ws A c 1 w1 HLW.out (by decide) HZ.out (HRD.out.to H1.out.bl)
                              rw [HN0.out] at hcall
                              refine hcall.mono ?_
                              clear hcall
                              rintro e wq0 ⟨rfl, hbq0⟩
                              have H2 := Lib.hid (H1.out.to hbq0)
                              clear hbq0
                              go_wp2_with (fail)
                              have hcall := word8_r ws A c 2 wq0 HLW.out (by decide) (HRD.out.to H2.out.bl)
                              rw [HX1.out, HSX1.out] at hcall
                              refine hcall.mono ?_
                              clear hcall
                              rintro e wz ⟨rfl, rfl⟩
                              go_wp2_with (refine wpList_storeC rfl _ _ 29 rfl b 29 (evE zeroE) (evE ⟨12, n0, 0, 0, y1, 0, 0, zeroD⟩).toArray evt_info (by rfl) (by rfl) H2.out.ev rfl (evt_one _) ?_)
                              go_meet
                              case rel =>
                                rw [HFN.out]
                                exact H2.out.row HWB.out hne _
                            · have g12 : (s0.toList == [70, 79, 76, 76, 79, 87]) = false := by rw [← HS0.out]; exact str_no q12
                              by_cases q13 : w0 = [80, 69, 78, 65, 76, 84, 89]
                              · have g13 : (s0.toList == [80, 69, 78, 65, 76, 84, 89]) = true := by rw [← HS0.out]; exact str_yes q13
                                obtain ⟨n0, hn0⟩ : ∃ y, numF ws 1 = y := ⟨_, rfl⟩
                                have HN0 := Lib.hid hn0
                                clear hn0
                                obtain ⟨n1, hn1⟩ : ∃ y, numF ws 2 = y := ⟨_, rfl⟩
                                have HN1 := Lib.hid hn1
                                clear hn1
                                have HFN := Lib.hid (show R = ⟨13, n0, 0, 0, false, n1, 0, zeroD⟩ by
                                  rw [← HR.out, guessG]
                                  rw [HW0.out, if_neg q0, if_neg q1, if_neg q2, if_neg q3, if_neg (fun q => q.elim q4 q5), if_neg q6, if_neg q7, if_neg q8, if_neg q9, if_neg q10, if_neg q11, if_neg q12, if_pos q13]
                                  rw [← HN0.out, ← HN1.out])
                                clear q0 q1 q2 q3 q4 q5 q6 q7 q8 q9 q10 q11 q12 q13
                                go_wp2_with (fail)
                                have hcall := number8_r ws A c 1 w1 HLW.out (by decide) HZ.out (HRD.out.to H1.out.bl)
                                rw [HN0.out] at hcall
                                refine hcall.mono ?_
                                clear hcall
                                rintro e wq0 ⟨rfl, hbq0⟩
                                have H2 := Lib.hid (H1.out.to hbq0)
                                clear hbq0
                                go_wp2_with (fail)
                                have hcall := number8_r ws A c 2 wq0 HLW.out (by decide) HZ.out (HRD.out.to H2.out.bl)
                                rw [HN1.out] at hcall
                                refine hcall.mono ?_
                                clear hcall
                                rintro e wq1 ⟨rfl, hbq1⟩
                                have H3 := Lib.hid (H2.out.to hbq1)
                                clear hbq1
                                go_wp2_with (refine wpList_storeC rfl _ _ 29 rfl b 29 (evE zeroE) (evE ⟨13, n0, 0, 0, false, n1, 0, zeroD⟩).toArray evt_info (by rfl) (by rfl) H3.out.ev rfl (evt_one _) ?_)
                                go_meet
                                case rel =>
                                  rw [HFN.out]
                                  exact H3.out.row HWB.out hne _
                              · have g13 : (s0.toList == [80, 69, 78, 65, 76, 84, 89]) = false := by rw [← HS0.out]; exact str_no q13
                                by_cases q14 : w0 = [82, 69, 86, 73, 69, 87]
                                · have g14 : (s0.toList == [82, 69, 86, 73, 69, 87]) = true := by rw [← HS0.out]; exact str_yes q14
                                  obtain ⟨n0, hn0⟩ : ∃ y, numF ws 1 = y := ⟨_, rfl⟩
                                  have HN0 := Lib.hid hn0
                                  clear hn0
                                  obtain ⟨x1, hx1⟩ : ∃ y, wordF ws 2 = y := ⟨_, rfl⟩
                                  have HX1 := Lib.hid hx1
                                  clear hx1
                                  obtain ⟨sx1, hsx1⟩ : ∃ y, sA x1 = y := ⟨_, rfl⟩
                                  have HSX1 := Lib.hid hsx1
                                  clear hsx1
                                  obtain ⟨y1, hy1⟩ : ∃ y, decide (x1 = [75, 69, 80, 84]) = y := ⟨_, rfl⟩
                                  have gy1 : (sx1.toList == [75, 69, 80, 84]) = y1 := by rw [← hy1, ← HSX1.out]; exact str_dec _ _
                                  have HY1 := Lib.hid hy1
                                  clear hy1
                                  have HFN := Lib.hid (show R = ⟨14, n0, 0, 0, y1, 0, 0, zeroD⟩ by
                                    rw [← HR.out, guessG]
                                    rw [HW0.out, if_neg q0, if_neg q1, if_neg q2, if_neg q3, if_neg (fun q => q.elim q4 q5), if_neg q6, if_neg q7, if_neg q8, if_neg q9, if_neg q10, if_neg q11, if_neg q12, if_neg q13, if_pos q14]
                                    rw [← HN0.out, ← HY1.out, ← HX1.out])
                                  clear q0 q1 q2 q3 q4 q5 q6 q7 q8 q9 q10 q11 q12 q13 q14
                                  go_wp2_with (fail)
                                  have hcall := number8_r ws A c 1 w1 HLW.out (by decide) HZ.out (HRD.out.to H1.out.bl)
                                  rw [HN0.out] at hcall
                                  refine hcall.mono ?_
                                  clear hcall
                                  rintro e wq0 ⟨rfl, hbq0⟩
                                  have H2 := Lib.hid (H1.out.to hbq0)
                                  clear hbq0
                                  go_wp2_with (fail)
                                  have hcall := word8_r ws A c 2 wq0 HLW.out (by decide) (HRD.out.to H2.out.bl)
                                  rw [HX1.out, HSX1.out] at hcall
                                  refine hcall.mono ?_
                                  clear hcall
                                  rintro e wz ⟨rfl, rfl⟩
                                  go_wp2_with (refine wpList_storeC rfl _ _ 29 rfl b 29 (evE zeroE) (evE ⟨14, n0, 0, 0, y1, 0, 0, zeroD⟩).toArray evt_info (by rfl) (by rfl) H2.out.ev rfl (evt_one _) ?_)
                                  go_meet
                                  case rel =>
                                    rw [HFN.out]
                                    exact H2.out.row HWB.out hne _
                                · have g14 : (s0.toList == [82, 69, 86, 73, 69, 87]) = false := by rw [← HS0.out]; exact str_no q14
                                  by_cases q15 : w0 = [82, 69, 86, 73, 83, 69]
                                  · have g15 : (s0.toList == [82, 69, 86, 73, 83, 69]) = true := by rw [← HS0.out]; exact str_yes q15
                                    obtain ⟨n0, hn0⟩ : ∃ y, numF ws 1 = y := ⟨_, rfl⟩
                                    have HN0 := Lib.hid hn0
                                    clear hn0
                                    obtain ⟨n1, hn1⟩ : ∃ y, numF ws 2 = y := ⟨_, rfl⟩
                                    have HN1 := Lib.hid hn1
                                    clear hn1
                                    have HFN := Lib.hid (show R = ⟨15, 0, 0, 0, false, n0, n1, zeroD⟩ by
                                      rw [← HR.out, guessG]
                                      rw [HW0.out, if_neg q0, if_neg q1, if_neg q2, if_neg q3, if_neg (fun q => q.elim q4 q5), if_neg q6, if_neg q7, if_neg q8, if_neg q9, if_neg q10, if_neg q11, if_neg q12, if_neg q13, if_neg q14, if_pos q15]
                                      rw [← HN0.out, ← HN1.out])
                                    clear q0 q1 q2 q3 q4 q5 q6 q7 q8 q9 q10 q11 q12 q13 q14 q15
                                    go_wp2_with (fail)
                                    have hcall := number8_r ws A c 1 w1 HLW.out (by decide) HZ.out (HRD.out.to H1.out.bl)
                                    rw [HN0.out] at hcall
                                    refine hcall.mono ?_
                                    clear hcall
                                    rintro e wq0 ⟨rfl, hbq0⟩
                                    have H2 := Lib.hid (H1.out.to hbq0)
                                    clear hbq0
                                    go_wp2_with (fail)
                                    have hcall := number8_r ws A c 2 wq0 HLW.out (by decide) HZ.out (HRD.out.to H2.out.bl)
                                    rw [HN1.out] at hcall
                                    refine hcall.mono ?_
                                    clear hcall
                                    rintro e wq1 ⟨rfl, hbq1⟩
                                    have H3 := Lib.hid (H2.out.to hbq1)
                                    clear hbq1
                                    go_wp2_with (refine wpList_storeC rfl _ _ 29 rfl b 29 (evE zeroE) (evE ⟨15, 0, 0, 0, false, n0, n1, zeroD⟩).toArray evt_info (by rfl) (by rfl) H3.out.ev rfl (evt_one _) ?_)
                                    go_meet
                                    case rel =>
                                      rw [HFN.out]
                                      exact H3.out.row HWB.out hne _
                                  · have g15 : (s0.toList == [82, 69, 86, 73, 83, 69]) = false := by rw [← HS0.out]; exact str_no q15
                                    by_cases q16 : w0 = [83, 84, 79, 80]
                                    · have g16 : (s0.toList == [83, 84, 79, 80]) = true := by rw [← HS0.out]; exact str_yes q16
                                      have HFN := Lib.hid (show R = ⟨16, 0, 0, 0, false, 0, 0, zeroD⟩ by
                                        rw [← HR.out, guessG]
                                        rw [HW0.out, if_neg q0, if_neg q1, if_neg q2, if_neg q3, if_neg (fun q => q.elim q4 q5), if_neg q6, if_neg q7, if_neg q8, if_neg q9, if_neg q10, if_neg q11, if_neg q12, if_neg q13, if_neg q14, if_neg q15, if_pos q16]
                                        skip)
                                      clear q0 q1 q2 q3 q4 q5 q6 q7 q8 q9 q10 q11 q12 q13 q14 q15 q16
                                      go_wp2_with (refine wpList_storeC rfl _ _ 29 rfl b 29 (evE zeroE) (evE ⟨16, 0, 0, 0, false, 0, 0, zeroD⟩).toArray evt_info (by rfl) (by rfl) H1.out.ev rfl (evt_one _) ?_)
                                      go_meet
                                      case rel =>
                                        rw [HFN.out]
                                        exact H1.out.row HWB.out hne _
                                    · have g16 : (s0.toList == [83, 84, 79, 80]) = false := by rw [← HS0.out]; exact str_no q16
                                      have HFN := Lib.hid (show R = zeroE by
                                        rw [← HR.out, guessG]
                                        rw [HW0.out, if_neg q0, if_neg q1, if_neg q2, if_neg q3, if_neg (fun q => q.elim q4 q5), if_neg q6, if_neg q7, if_neg q8, if_neg q9, if_neg q10, if_neg q11, if_neg q12, if_neg q13, if_neg q14, if_neg q15, if_neg q16])
                                      clear q0 q1 q2 q3 q4 q5 q6 q7 q8 q9 q10 q11 q12 q13 q14 q15 q16
                                      go_wp2_with (fail)
                                      go_meet
                                      case rel => rw [HFN.out]; exact H1.out
  case rest =>
  have H9 := Lib.hid hcut
  clear hcut
  go_wp2_with (first | (refine wpList_loadC rfl _ 29 rfl b 29 (evE R) _ rfl (by rfl) (by rfl) (by rfl) H9.out.ev ?_) | (refine wpList_storeC rfl _ _ 29 rfl h 29 (evE zeroE) (evE R).toArray evt_info (by rfl) (by rfl) H9.out.zr rfl (evt_one _) ?_))
  refine ret_cell (g := h) (e := 29) (xs := (evE R).toArray.toList) rfl (by rfl) (blk_row H9.out.zr _) rfl (by rfl) (by rfl) rfl ?_
  exact ⟨rfl, row_below H9.out.bl (Nat.le_of_eq HHH.out) _⟩
end

section
/-! Chapter 8: Parse of the reference. -/
open Go.RowKit
set_option maxRecDepth 100000
set_option maxHeartbeats 4000000
theorem splC_len : ∀ l : List UInt8, (splitC 32 l).length ≤ l.length + 1 ∧ ∀ x ∈ splitC 32 l, x.length ≤ l.length
  | [] => by simp [splitC]
  | x :: r => by
    obtain ⟨h1, h2⟩ := splC_len r
    unfold splitC
    split
    · refine ⟨by simp; omega, fun y hy => ?_⟩
      rcases List.mem_cons.1 hy with rfl | hy
      · simp
      · have := h2 y hy; simp; omega
    · split
      · simp
      · next w ws he =>
        rw [he] at h1 h2
        refine ⟨by simp at h1 ⊢; omega, fun y hy => ?_⟩
        rcases List.mem_cons.1 hy with rfl | hy
        · have := h2 w List.mem_cons_self; simp; omega
        · have := h2 y (List.mem_cons_of_mem _ hy); simp; omega
theorem fieldsS_len (l : List UInt8) : (fieldsS l).length ≤ l.length + 1 ∧ ∀ x ∈ fieldsS l, x.length ≤ l.length := by
  unfold fieldsS
  split
  · simp
  · exact splC_len l
theorem guessF_ball (ws : List (List UInt8)) : 0 ≤ (guessF ws).ball.src ∧ 0 ≤ (guessF ws).ball.how := by
  have key : ∀ x : List UInt8, 0 ≤ (parD (guessR x) x).1.src ∧ 0 ≤ (parD (guessR x) x).1.how := fun x => by
    unfold parD
    split
    · exact ⟨guessR_src x, (guessR_how x).1⟩
    · exact ⟨by decide, by decide⟩
  rw [guessG]
  have z : 0 ≤ zeroD.src ∧ 0 ≤ zeroD.how := ⟨by decide, by decide⟩
  have step : ∀ (c : Prop) [Decidable c] (a b : Ev), (0 ≤ a.ball.src ∧ 0 ≤ a.ball.how) → (0 ≤ b.ball.src ∧ 0 ≤ b.ball.how) → 0 ≤ (if c then a else b).ball.src ∧ 0 ≤ (if c then a else b).ball.how := fun c _ a b ha hb => by split <;> assumption
  exact step _ _ _ z (step _ _ _ z (step _ _ _ z (step _ _ _ (key _) (step _ _ _ z (step _ _ _ z (step _ _ _ z (step _ _ _ z (step _ _ _ z (step _ _ _ z (step _ _ _ z (step _ _ _ z (step _ _ _ z (step _ _ _ z (step _ _ _ z (step _ _ _ z z)))))))))))))))
theorem parse8_r (l : List UInt8) (hl : l.length ≤ 1000000) (w : World) : Calls Tryz.prog 15 #[.string (sA l)] w fun e w' => e = .returned (.tuple #[evV (parE (some (guessF (fieldsS l))) l).1, .int .i64 (parE (some (guessF (fieldsS l))) l).2]) ∧ Below w.heap.size w w' := by
  have HG := Lib.hid (guessF_ball (fieldsS l))
  have hcf := fun w => fields7_r l hl w
  obtain ⟨ws, hws⟩ : ∃ y, fieldsS l = y := ⟨_, rfl⟩
  obtain ⟨fl1, fl2⟩ := fieldsS_len l
  rw [hws] at fl1 fl2
  have HFL := Lib.hid (show ws.length ≤ 1000001 by omega)
  have HFZ := Lib.hid (show ∀ x ∈ ws, x.length ≤ 1000000 from fun x hx => Nat.le_trans (fl2 x hx) hl)
  simp only [hws] at hcf
  obtain ⟨G, hG⟩ : ∃ G, guessF ws = G := ⟨_, rfl⟩
  rw [hws, hG] at HG
  rw [hws, hG]
  have HGW := Lib.hid hG
  obtain ⟨sl, hsl⟩ : ∃ y, sA l = y := ⟨_, rfl⟩
  rw [hsl]
  simp only [hsl] at hcf
  have HSL := Lib.hid hsl
  have HCF := Lib.hid hcf
  clear hsl hG hl hcf hws fl1 fl2
  obtain ⟨W0, hW0⟩ : ∃ y, w.alloc (.cells (evE zeroE).toArray 29) = y := ⟨_, rfl⟩
  have HZ := Lib.hid (show Blk W0 w.heap.size 29 (evE zeroE) by rw [← hW0]; exact Blk.new w _ _)
  have HB0 := Lib.hid (show Below w.heap.size w W0 by rw [← hW0]; exact cur_new w _)
  have S0 := Lib.hid (show w.alloc (.cells #[.int .u8 0, .int .i64 0, .int .i64 0, .int .i64 0, .bool false, .int .i64 0, .int .i64 0, .int .u8 0, .int .u8 0, .int .i64 0, .int .i64 0, .int .i64 0, .bool false, .int .u8 0, .int .i64 0, .int .i64 0, .int .i64 0, .bool false, .int .i64 0] 29) = W0 from hW0)
  clear hW0
  go_enter Tryz.func15, Tryz.ntmps15
  go_wp2_with (rw [S0.out])
  refine (HCF.out W0).mono ?_
  rintro e w0 ⟨A, c, rfl, hown, hb0⟩
  have HRD := Lib.hid (show Rd stE 1 w0 w0.heap.size A ws by
    obtain ⟨A', c', e2, h, _⟩ := OwnL.rd stE_len hown
    injection e2 with e2 _ _
    rw [e2]; exact h)
  have HB00 := Lib.hid hb0
  clear hown hb0
  go_wp2_with (fail)
  have hcall := guess8_r ws A c w0 (by have := HFL.out; omega) HFZ.out HRD.out
  rw [HGW.out] at hcall
  refine hcall.mono ?_
  clear hcall
  rintro e w1 ⟨rfl, hb1⟩
  have hb1 := cur_step1 HB00.out hb1
  obtain ⟨wc, hwc⟩ : ∃ y, w1.alloc (.cells (evE G).toArray 29) = y := ⟨_, rfl⟩
  have HDL := Lib.hid (show Blk wc w1.heap.size 29 (evE G) by rw [← hwc]; exact Blk.new w1 _ _)
  have HZZ := Lib.hid (show Blk wc w.heap.size 29 (evE zeroE) by rw [← hwc]; exact (HZ.out.to hb1).to (cur_new _ _))
  have HBW := Lib.hid (show Below w.heap.size w wc by rw [← hwc]; exact cur_step1 (cur_step1 HB0.out hb1) (cur_new _ _))
  have SWC := Lib.hid hwc
  obtain ⟨h, hh⟩ : ∃ h, w1.heap.size = h := ⟨_, rfl⟩
  rw [hh] at HDL
  have HHH := Lib.hid hh
  clear hwc hb1 hh
  go_wp2_with (first | (refine wpList_storeNew rfl _ _ 29 rfl _ (evE G).toArray evt_info (by rfl) (by rfl) rfl (evt_one _) ?_; rw [SWC.out, HHH.out]) | (refine wpList_loadC rfl _ 29 rfl h 29 (evE G) _ rfl (by rfl) (by rfl) (by rfl) HDL.out ?_))
  refine (textr8 G HG.out.2 wc).mono ?_
  rintro e w26 ⟨rfl, hb26⟩
  have HDL2 := Lib.hid (HDL.out.to hb26)
  have HZZ2 := Lib.hid (HZZ.out.to hb26)
  have HBW2 := Lib.hid (cur_step1 HBW.out hb26)
  clear hb26
  by_cases hc : chkE G = 0
  · have HT := Lib.hid (show TxtE G = (txtE G, 0) by unfold TxtE; rw [if_neg (by simpa using hc)])
    have HC := Lib.hid hc
    rw [HT.out]
    dsimp only
    clear hc
    obtain ⟨tS, htS⟩ : ∃ y, sA (txtE G) = y := ⟨_, rfl⟩
    rw [htS]
    have NtS := Lib.hid htS
    clear htS
    by_cases hp : txtE G = l
    · have g1 : (tS.toList == sl.toList) = true := by rw [← NtS.out, ← HSL.out, hp]; simp
      have HP := Lib.hid (show parE (some G) l = (G, 0) by unfold parE; dsimp only; rw [if_pos ⟨HC.out, hp⟩])
      clear hp
      go_wp2_with (first | (refine wpList_loadC rfl _ 29 rfl h 29 (evE G) _ rfl (by rfl) (by rfl) (by rfl) HDL2.out ?_) | (refine wpList_storeC rfl _ _ 29 rfl w.heap.size 29 (evE zeroE) (evE G).toArray evt_info (by rfl) (by rfl) HZZ2.out rfl (evt_one _) ?_))
      refine ret_cell2 (g := w.heap.size) (e := 29) (xs := (evE G).toArray.toList) rfl (by rfl) (by rfl) (blk_row HZZ2.out _) rfl (by rfl) (by rfl) rfl ?_
      rw [HP.out]
      exact ⟨rfl, row_below HBW2.out (Nat.le_refl _) _⟩
    · have g1 : (tS.toList == sl.toList) = false := by
        rw [← NtS.out, ← HSL.out]
        simp only [beq_eq_false_iff_ne, ne_eq]
        intro he
        apply hp
        rw [sA_to, sA_to] at he
        exact he
      have HP := Lib.hid (show parE (some G) l = (zeroE, 4) by unfold parE; dsimp only; rw [if_neg (fun q => hp q.2)])
      clear hp
      go_wp2_with (first | (refine wpList_storeC rfl _ _ 29 rfl w.heap.size 29 (evE zeroE) (evE zeroE).toArray evt_info (by rfl) (by rfl) HZZ2.out rfl (evt_one _) ?_))
      refine ret_cell2 (g := w.heap.size) (e := 29) (xs := (evE zeroE).toArray.toList) rfl (by rfl) (by rfl) (blk_row HZZ2.out _) rfl (by rfl) (by rfl) rfl ?_
      rw [HP.out]
      exact ⟨rfl, row_below HBW2.out (Nat.le_refl _) _⟩
  · obtain ⟨v, hv⟩ : ∃ v, chkE G = v := ⟨_, rfl⟩
    have HT := Lib.hid (show TxtE G = ([], v) by unfold TxtE; rw [if_pos hc, hv])
    have g1 : (v != 0) = true := by rw [← hv]; simpa using hc
    have HP := Lib.hid (show parE (some G) l = (zeroE, 4) by unfold parE; dsimp only; rw [if_neg (fun q => hc q.1)])
    rw [HT.out]
    dsimp only
    generalize sA [] = s9
    clear hc hv
    go_wp2_with (first | (refine wpList_storeC rfl _ _ 29 rfl w.heap.size 29 (evE zeroE) (evE zeroE).toArray evt_info (by rfl) (by rfl) HZZ2.out rfl (evt_one _) ?_))
    refine ret_cell2 (g := w.heap.size) (e := 29) (xs := (evE zeroE).toArray.toList) rfl (by rfl) (by rfl) (blk_row HZZ2.out _) rfl (by rfl) (by rfl) rfl ?_
    rw [HP.out]
    exact ⟨rfl, row_below HBW2.out (Nat.le_refl _) _⟩
end

section
/-! EventParses: the walk. -/
open Go.RowKit
set_option maxRecDepth 100000
set_option maxHeartbeats 4000000
theorem parS_ref (l : List UInt8) : parE (some (guessF (fieldsS l))) l = parS l := by
  unfold parS
  refine (parE_eq (fun g hg => ?_) (guessF_ball _)).symm
  cases hsp : splitC 32 l with
  | nil => exact absurd hsp (splitC_ne 32 l)
  | cons w0 ws =>
    rw [hsp, guess_is] at hg
    unfold gsK at hg
    split at hg
    · cases hg
    · split at hg
      · cases hg
      · injection hg with hg
        rw [← hg]
        exact And.symm (takeAll_ball _ _ _ _ ⟨Int.le_refl 0, Int.le_refl 0⟩)
theorem law_par8 (p : ByteArray) (w : World) (hps : p.size ≤ 9223372036854775807) (hw : LibW w) :
    Calls Tryz.prog 4 #[.string p] w fun e' w' => e' = .returned (.bool true) ∧ Below w.heap.size w w' := by
  have HL := Lib.hid hw
  obtain ⟨m, hm⟩ : ∃ m : Nat, min p.size 60 = m := ⟨_, rfl⟩
  have hm1 : m ≤ p.size := by omega
  have hm2 : m ≤ 60 := by omega
  have hmin : min (p.size : Int) 60 = (m : Nat) := by omega
  obtain ⟨q, hq⟩ : ∃ q, p.extract 0 m = q := ⟨_, rfl⟩
  have hqz : q.size ≤ 60 := by rw [← hq, ByteArray.size_extract]; omega
  have HQ := Lib.hid hq
  obtain ⟨ql, hql⟩ : ∃ ql, q.data.toList = ql := ⟨_, rfl⟩
  have HQL := Lib.hid (show sA ql = q by rw [← hql]; rfl)
  have HQN := Lib.hid (show ql.length ≤ 60 by rw [← hql, Array.length_toList]; exact hqz)
  clear hm hq hql hw
  go_enter Tryz.func4, Tryz.ntmps4
  go_wp2_with (fail)
  refine (awake8_p _ HL.out).mono ?_
  rintro e' w2 ⟨rfl, hb2⟩
  have HB2 := Lib.hid hb2
  clear hb2
  go_wp2_with (fail)
  rw [HQ.out]
  have hc4 := parse8_p ql (by have := HQN.out; omega) w2 (HL.out.to HB2.out)
  rw [HQL.out] at hc4
  refine hc4.mono ?_
  clear hc4
  rintro e' w7 ⟨rfl, hb7⟩
  obtain ⟨P, hP⟩ : ∃ P, parS ql = P := ⟨_, rfl⟩
  rw [hP]
  have HP := Lib.hid hP
  obtain ⟨X, er⟩ := P
  dsimp only
  have HB7 := Lib.hid (cur_step1 HB2.out hb7)
  clear hb7 hP
  obtain ⟨W8, hW8⟩ : ∃ y, w7.alloc (.cells (evE X).toArray 29) = y := ⟨_, rfl⟩
  have HB8 := Lib.hid (show Below w.heap.size w W8 by rw [← hW8]; exact cur_step1 HB7.out (cur_new w7 _))
  have HX8 := Lib.hid (show Blk W8 w7.heap.size 29 (evE X) by rw [← hW8]; exact Blk.new w7 _ _)
  have S8 := Lib.hid hW8
  obtain ⟨g8, hg8⟩ : ∃ y, w7.heap.size = y := ⟨_, rfl⟩
  rw [hg8] at HX8
  have HG8 := Lib.hid hg8
  clear hW8 hg8
  go_wp2_with (refine wpList_storeNew rfl _ _ 29 rfl _ (evE X).toArray evt_info (by rfl) (by rfl) rfl (evt_one _) ?_; rw [S8.out, HG8.out])
  have hc4 := parse8_r ql (by have := HQN.out; omega) W8
  rw [HQL.out, parS_ref, HP.out] at hc4
  refine hc4.mono ?_
  clear hc4
  rintro e' w9 ⟨rfl, hb9⟩
  dsimp only
  obtain ⟨WA, hWA⟩ : ∃ y, w9.alloc (.cells (evE X).toArray 29) = y := ⟨_, rfl⟩
  have HBA := Lib.hid (show Below w.heap.size w WA by rw [← hWA]; exact cur_step1 (cur_step1 HB8.out hb9) (cur_new w9 _))
  have HXA := Lib.hid (show Blk WA g8 29 (evE X) by rw [← hWA]; exact (HX8.out.to hb9).to (cur_new w9 _))
  have HYA := Lib.hid (show Blk WA w9.heap.size 29 (evE X) by rw [← hWA]; exact Blk.new w9 _ _)
  have SA := Lib.hid hWA
  obtain ⟨g9, hg9⟩ : ∃ y, w9.heap.size = y := ⟨_, rfl⟩
  rw [hg9] at HYA
  have HG9 := Lib.hid hg9
  clear hWA hg9 hb9
  have kq : ∀ w : World, (binOp .eql 29 (.agg (evE X).toArray) (.agg (evE X).toArray)).run Tryz.prog w = .ok (.bool true) w := fun w => by rw [ev_eql]; simp
  have ge : (er == er) = true := by simp
  go_wp2_with (first | (refine wpList_storeNew rfl _ _ 29 rfl _ (evE X).toArray evt_info (by rfl) (by rfl) rfl (evt_one _) ?_; rw [SA.out, HG9.out]) | (refine wpList_loadC rfl _ 29 rfl g8 29 (evE X) _ rfl (by rfl) (by rfl) (by rfl) HXA.out ?_) | (refine wpList_loadC rfl _ 29 rfl g9 29 (evE X) _ rfl (by rfl) (by rfl) (by rfl) HYA.out ?_))
  go_ret
  exact ⟨rfl, HBA.out⟩
end
end Go.Proofs.YtgkjcapoddjkhaaGreatDoor
