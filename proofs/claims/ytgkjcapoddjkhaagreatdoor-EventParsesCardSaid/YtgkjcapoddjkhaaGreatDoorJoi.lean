/-
  Chapter 8: the fields of a line joined, by the program.
-/
import Derived.Test.YtgkjcapoddjkhaaGreatDoorJoinE
import Derived.Test.YtgkjcapoddjkhaaGreatDoorLogP
import Derived.Test.YtgkjcapoddjkhaaGreatDoorTxD
set_option linter.unusedSimpArgs false
set_option linter.unusedVariables false
namespace Go.Proofs.YtgkjcapoddjkhaaGreatDoor
open Go.RowKit
set_option maxRecDepth 100000
set_option maxHeartbeats 4000000
def JoR (fs : List Fld) (w : World) (v iv : Value) (wr : World) : Prop := ∃ (k : Nat) (A : Option Addr) (c : Nat), k ≤ fs.length ∧ iv = .int .i64 k ∧ v = .slice A ((fs.take k).map (·.text)).length c ∧ OwnL stE 1 9 w.heap.size wr (.slice A ((fs.take k).map (·.text)).length c) ((fs.take k).map (·.text)) ∧ (fs.take k).any (·.quoted) = false ∧ Below w.heap.size w wr
theorem joined_p (num : Int) (g c0 : Nat) (fs : List Fld) (hf0 : fs ≠ []) (hfl : fs.length ≤ 2000) (hjl : (joinF fs).1.length ≤ 100000) (w : World) (hrd : Rd flE 3 w w.heap.size (some ⟨g, 0, none⟩) fs) :
    Calls Tryz.prog 50 #[.agg #[.int .i64 num, .slice (some ⟨g, 0, none⟩) fs.length c0]] w fun e w' => e = .returned (.tuple #[.string (sA (joinF fs).1), .bool (joinF fs).2]) ∧ Below w.heap.size w w' := by
  obtain ⟨R, hR⟩ : ∃ R, joinF fs = R := ⟨_, rfl⟩
  rw [hR] at hjl ⊢
  have HR := Lib.hid hR
  have HRD := Lib.hid hrd
  have hf1 : 0 < fs.length := List.length_pos_iff.2 hf0
  have HF0 := Lib.hid hf0
  have HJL := Lib.hid hjl
  clear hR hrd hf0 hjl
  go_enter Tryz.func50, Tryz.ntmps50
  go_wp2_with (fail)
  go_loopw [4, 10] (JoR fs w) (fun _ i _ => fs.length - (intOf i).toNat)
  case atStart => exact ⟨0, none, 0, by omega, rfl, rfl, World.ownsRow_nil _ _ _ _, rfl, cur_new _ _⟩
  case round =>
    obtain ⟨k, A, c, hk, rfl, rfl, hown, hq, hb⟩ := hrel
    have HO := Lib.hid hown
    have HQ := Lib.hid hq
    have HB := Lib.hid hb
    obtain ⟨TL, hTL⟩ : ∃ y, (fs.take k).map (·.text) = y := ⟨_, rfl⟩
    rw [hTL] at HO ⊢
    have htl : TL.length ≤ 2000 := by rw [← hTL]; simp; omega
    have HTL := Lib.hid hTL
    clear hown hq hb hTL
    by_cases hkl : k < fs.length
    · obtain ⟨f, hfk⟩ : ∃ f, fs[k]? = some f := ⟨_, List.getElem?_eq_getElem hkl⟩
      obtain ⟨b2, off2, e2, hb2, hc2⟩ := (HRD.out.to HB.out) k f hfk
      injection e2 with e2
      injection e2 with e21 e22 _
      subst e21 e22
      obtain ⟨ft, fc, fq⟩ := f
      obtain ⟨st, hst⟩ : ∃ y, sA ft = y := ⟨_, rfl⟩
      have d0 := hc2 0 _ rfl
      have d1 := hc2 1 _ rfl
      have d2 := hc2 2 _ rfl
      dsimp only at d0 d1 d2
      rw [hst] at d0
      simp only [Nat.zero_add, Nat.add_zero] at d0 d1 d2
      have HST := Lib.hid (show stE ft = [.string st] by unfold stE; rw [hst])
      have HFK := Lib.hid hfk
      have HTK := Lib.hid (show TL ++ [ft] = (fs.take (k + 1)).map (·.text) by rw [List.take_add_one, hfk, ← HTL.out]; simp)
      have hnew := cur_new wr (.cells #[.string st, .int .i64 fc, .bool fq] 101)
      have HNW := Lib.hid hnew
      clear hst hfk hc2 hnew
      cases fq
      · have HQ2 := Lib.hid (show (fs.take (k + 1)).any (·.quoted) = false by rw [List.take_add_one, HFK.out, List.any_append, HQ.out]; rfl)
        go_wp2_with (at_builtin; refine wpList_app1 Tryz.stElem _ rfl (.tmp 16) (.tmp 19) rfl w.heap.size A c TL rfl ?o1 ft (wr.heap.size + 1) 1 rfl ?o2 ?o3 ?o4 ?o5 ?_)
        case o1 => exact World.ownsRow.alloc (World.ownsRow.alloc HO.out _) _
        case o2 => rw [HST.out]; first | exact two_new _ _ _ | exact (Array.getElem?_eq_some_iff.1 (two_new _ _ _)).2
        case o3 => unfold maxLen; omega
        case o4 => omega
        case o5 => have := HB.out.size; simp; omega
        intro g2 cap w6 ha
        obtain ⟨hb6, ho6⟩ := app1_end HB.out (own_base HO.out) (cur_two wr _ _) ha
        rw [HTK.out] at ho6
        have HB6 := Lib.hid hb6
        have HO6 := Lib.hid ho6
        have HLN := Lib.hid (show TL.length + 1 = ((fs.take (k + 1)).map (·.text)).length by rw [← HTK.out, List.length_append]; rfl)
        clear ha hb6 ho6
        go_wp2_with (fail)
        exact ⟨⟨k + 1, some ⟨g2, 0, none⟩, cap, by omega, rfl, by rw [← HLN.out], HO6.out, HQ2.out, HB6.out⟩, by show fs.length - (k + 1) < fs.length - k; omega⟩
      · have HRR := Lib.hid (show R = ([], false) by rw [← HR.out]; unfold joinF; rw [if_pos (List.any_eq_true.2 ⟨_, List.mem_of_getElem? HFK.out, rfl⟩)])
        go_wp2_with (fail)
        go_ret2
        rw [HRR.out]
        exact ⟨rfl, cur_step1 HB.out HNW.out⟩
    · have hkn : k = fs.length := by omega
      have g9 : ¬ k < fs.length := hkl
      have HTT := Lib.hid (show TL = fs.map (·.text) by rw [← HTL.out, hkn, List.take_length])
      have HRR := Lib.hid (show R = (joinS (fs.map (·.text)), true) by rw [← HR.out]; unfold joinF; rw [if_neg (by have := HQ.out; rw [hkn, List.take_length] at this; rw [this]; decide)])
      clear hkn
      go_wp2_with (fail)
      have ho := HO.out
      have hjl := HJL.out
      rw [HRR.out] at hjl
      rw [HTT.out] at ho ⊢
      dsimp only at hjl
      refine (join_own (by simpa using HF0.out) (by rw [← HTT.out]; omega) (by omega) _ ho).mono ?_
      rintro e' w6 ⟨rfl, hb6⟩
      go_wp2_with (fail)
      go_ret2
      rw [HRR.out]
      exact ⟨rfl, cur_step1 HB.out hb6⟩
end Go.Proofs.YtgkjcapoddjkhaaGreatDoor
