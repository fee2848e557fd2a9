/-
  Chapter 54: Parse of the reference.
-/
import Derived.Test.YtpninpohligomaaGreatDoorTx54
import Derived.Test.YtpninpohligomaaGreatDoorOwn3
import Derived.Test.YtpninpohligomaaGreatDoorNumRT
import Derived.Test.YtpninpohligomaaGreatDoorWins54
import Derived.Deep.RegionLaw
set_option linter.unusedSimpArgs false
set_option linter.unusedVariables false
namespace Go.Proofs.YtpninpohligomaaGreatDoor
open Go.RowKit
set_option maxRecDepth 100000
set_option maxHeartbeats 4000000
theorem number54 (s : ByteArray) (hs : s.size ≤ 281474976710656) (w : World) :
    Calls Tryz.prog 44 #[.string s] w fun e w' => e = .returned (.tuple #[.int .i64 (numP s.data.toList 0 1000000).1, .bool ((numP s.data.toList 0 1000000).2 == 0)]) ∧ Below w.heap.size w w' := by
  obtain ⟨x, y, hv⟩ : ∃ x y, numP s.data.toList 0 1000000 = (x, y) := ⟨_, _, rfl⟩
  rw [hv]
  have HV := Lib.hid hv
  clear hv
  go_enter Tryz.func44, Tryz.ntmps44
  go_wp2_with fail
  refine (number_r s hs 0 1000000 (by decide) (by decide) _).mono ?_
  rintro e w1 ⟨rfl, hb1⟩
  rw [HV.out]
  have HB := Lib.hid hb1
  clear hb1
  (try simp only [])
  go_wp2_with fail
  go_ret2
  exact ⟨rfl, HB.out⟩
theorem Tryz.infoTrP : (Tryz.prog.info? 51).map (fun i => (i.zero, i.size, i.bytes)) = some (some (.agg #[.string ⟨#[]⟩, .string ⟨#[]⟩, .int .i64 0]), 3, 40) := by kernel_rfl
theorem Tryz.trElemP : ElemOf Tryz.prog trE 3 40 36 51 := .mk' Tryz.infoTrP rfl Tryz.underlying36 (by decide) trE_len (fun x u hu => by simp [trE] at hu; rcases hu with rfl | rfl | rfl <;> rfl)
def PrR54 (R : List (List UInt8)) (W : List ByteArray) (A1 : Option Addr) (n : Nat) (c1 : Nat) (w : World) (v5 v6 i : Value) (wr : World) : Prop := ∃ (k : Nat) (ws : List Wn) (ls : List Tr) (Aw : Option Addr) (cw : Nat) (Al : Option Addr) (cl : Nat), k ≤ R.length ∧ i = .int .i64 k ∧ v5 = .slice Aw ws.length cw ∧ v6 = .slice Al ls.length cl ∧ rowsT (R.take k) = some (ws, ls) ∧
  OwnL wnE 2 56 w.heap.size wr (.slice Aw ws.length cw) ws ∧ OwnL trE 3 51 w.heap.size wr (.slice Al ls.length cl) ls ∧ OwnL stE 1 9 w.heap.size wr (.slice A1 n c1) W ∧ Below w.heap.size w wr
theorem parse_r (s : ByteArray) (w : World) (hs : s.size ≤ 1000) :
    Calls Tryz.prog 22 #[.string s] w fun e w' => ∃ v1 v2, e = .returned (.tuple #[v1, v2, .int .i64 (ParT (splitC 10 s.data.toList).dropLast s.data.toList).2.2]) ∧ OwnL wnE 2 56 w.heap.size w' v1 (ParT (splitC 10 s.data.toList).dropLast s.data.toList).1 ∧
      OwnL trE 3 51 w.heap.size w' v2 (ParT (splitC 10 s.data.toList).dropLast s.data.toList).2.1 ∧ Below w.heap.size w w' := by
  have hsl : s.data.toList.length = s.size := by simp
  obtain ⟨hp1, hp2⟩ := splitC_small 10 s.data.toList
  have hne := splitC_ne 10 s.data.toList
  have hn1 : 1 ≤ (splitC 10 s.data.toList).length := by
    cases h : splitC 10 s.data.toList with
    | nil => exact absurd h hne
    | cons a b => simp
  have hsn := splS_length 10 s.data.toList
  obtain ⟨R, hR⟩ : ∃ R, (splitC 10 s.data.toList).dropLast = R := ⟨_, rfl⟩
  have hRl : R.length = (splitC 10 s.data.toList).length - 1 := by rw [← hR, List.length_dropLast]
  have HRat := Lib.hid (show ∀ (k : Nat) r, R[k]? = some r → (splS 10 s.data.toList)[k]? = some (baT r) ∧ r.length ≤ 1000 from fun k r hr => by
    have h1 : (splitC 10 s.data.toList)[k]? = some r := by
      have hk := (List.getElem?_eq_some_iff.1 hr).1
      rw [← hR, List.dropLast_eq_take, List.getElem?_take] at hr
      split at hr
      · exact hr
      · cases hr
    exact ⟨splS_at h1, by have := hp1 r (List.mem_of_getElem? h1); omega⟩)
  have HRs := Lib.hid (show ∀ r ∈ R, r.length ≤ 1000 from fun r hr => by
    obtain ⟨k, hk, rfl⟩ := List.getElem_of_mem hr
    exact (HRat.out k _ (List.getElem?_eq_getElem hk)).2)
  rw [hR]
  obtain ⟨n, hn⟩ : ∃ n, (splS 10 s.data.toList).length = n := ⟨_, rfl⟩
  have hnR : n = R.length + 1 := by omega
  have hn1000 : n ≤ 1001 := by omega
  have HN := Lib.hid hnR
  have hRn : R.length ≤ n := by omega
  have hown0 : OwnL wnE 2 56 w.heap.size (w.alloc (.cells #[] 56)) (.slice (some ⟨w.heap.size, 0, none⟩) 0 0) [] := ⟨rfl, .inr ⟨w.heap.size, 0, #[], rfl, Nat.le_refl _, heap_alloc_new w _, Nat.le_refl _, by decide, rfl, rfl⟩⟩
  have hown1 : OwnL trE 3 51 w.heap.size ((w.alloc (.cells #[] 56)).alloc (.cells #[] 51)) (.slice (some ⟨w.heap.size + 1, 0, none⟩) 0 0) [] := ⟨rfl, .inr ⟨w.heap.size + 1, 0, #[], rfl, Nat.le_succ _, two_new w _ _, Nat.le_refl _, by decide, rfl, rfl⟩⟩
  have HO0 := Lib.hid (own_below hown0 (cur_new _ (.cells #[] 51)) (Nat.le_refl _))
  have HO1 := Lib.hid hown1
  clear hp1 hp2 hne hR hRl hsn hown0 hown1
  go_enter Tryz.func22, Tryz.ntmps22
  go_wp2_with fail
  refine (words_r s 10 _ (by omega)).mono ?_
  rintro e w1 ⟨v, rfl, hown, hb1⟩
  obtain ⟨A1, c1, rfl, hrd1, ha1⟩ := OwnL.rd stE_len hown
  have hcap1 := own_cap hown
  rw [hn] at hcap1 hown ⊢
  have HB := Lib.hid (cur_step1 (cur_two w (.cells #[] 56) (.cells #[] 51)) hb1)
  have HOW := Lib.hid (own_below HO0.out hb1 (Nat.le_refl _))
  have HOL := Lib.hid (own_below HO1.out hb1 (Nat.le_refl _))
  have HOS := Lib.hid (own_mono hown (Nat.le_of_lt (by simp; omega) : w.heap.size ≤ _))
  have hs3 : IntKind.i64.wrap ((n : Int) - 1) = (R.length : Int) := by rw [IntKind.wrap_i64]; omega
  have HA1 := Lib.hid (show ∀ b off, A1 = some ⟨b, off, none⟩ → off = 0 from fun b off e => (ha1 b off e).2)
  clear hown hb1 hrd1 HO0 HO1 hn ha1 hnR
  go_wp2_with fail
  go_loopw [5, 6, 27] (PrR54 R (splS 10 s.data.toList) A1 n c1 w) (fun _ _ i _ => R.length - (intOf i).toNat)
  case atStart => exact ⟨0, [], [], some ⟨w.heap.size, 0, none⟩, 0, some ⟨w.heap.size + 1, 0, none⟩, 0, by omega, rfl, rfl, rfl, rfl, HOW.out, HOL.out, HOS.out, HB.out⟩
  case round =>
    obtain ⟨k, ws, ls, Aw, cw, Al, cl, hk, rfl, rfl, rfl, hrw, how, hol, hos, hb⟩ := hrel
    clear HB HOW HOL HOS
    have HOW := Lib.hid how
    have HOL := Lib.hid hol
    have HOS := Lib.hid hos
    have HB := Lib.hid hb
    have HRW := Lib.hid hrw
    have hbs := hb.size
    have hcnt := (rowsT_size (n := 1000) hrw (fun r hr => HRs.out r (List.mem_of_mem_take hr))).2
    rw [List.length_take] at hcnt
    have HCNT := Lib.hid (show ws.length ≤ 1001 ∧ ls.length ≤ 1001 by omega)
    clear how hol hos hb hrw hcnt
    by_cases hlt : k < R.length
    · obtain ⟨r, hr⟩ : ∃ r, R[k]? = some r := ⟨_, List.getElem?_eq_getElem hlt⟩
      obtain ⟨hrs, hrl⟩ := HRat.out k r hr
      obtain ⟨hrd, hA0⟩ := own_rd stE_len HOS.out
      obtain ⟨b, off, rfl, hbb, hcl⟩ := hrd.at_ (cur_here _) hrs
      obtain rfl := hA0 _ _ rfl
      have c0 : wr.cell? ⟨b, k, none⟩ = some (.string (baT r)) := by have := st_cell hcl; simpa using this
      have HR := Lib.hid hr
      clear hcl hrs hr hrd hA0
      have hkn : k < n := by have := HN.out; omega
      go_wp2_with fail
      refine (words_r (baT r) 32 _ (by rw [baT_size]; omega)).mono ?_
      rintro e w2 ⟨v2, rfl, hown2, hb2⟩
      rw [baT_list] at hown2
      obtain ⟨A2, c2, rfl, hrd2, ha2⟩ := OwnL.rd stE_len hown2
      have hcap2 := own_cap hown2
      have HB2 := Lib.hid (cur_step1 HB.out hb2)
      have HX2 := Lib.hid hb2
      have HOW2 := Lib.hid (own_below HOW.out hb2 (Nat.le_refl _))
      have HOL2 := Lib.hid (own_below HOL.out hb2 (Nat.le_refl _))
      have HOS2 := Lib.hid (own_below HOS.out hb2 (Nat.le_refl _))
      have hlen2 := splS_length 32 r
      obtain ⟨b2, off2, rfl, hbb2, hfl⟩ := flds hrd2
      obtain ⟨m, hm⟩ : ∃ m, (splS 32 r).length = m := ⟨_, rfl⟩
      rw [hm] at hcap2 hlen2 ⊢
      have hne2 := splitC_ne 32 r
      have hsm := splitC_small 32 r
      obtain ⟨q, hq⟩ : ∃ q, m = q + 1 := by
        cases h : splitC 32 r with
        | nil => exact absurd h hne2
        | cons a t => rw [h] at hlen2; exact ⟨t.length, by simpa using hlen2⟩
      have hqw : IntKind.i64.wrap ((m : Int) - 1) = (q : Int) := by rw [IntKind.wrap_i64]; omega
      have hqm : q < m := by omega
      obtain ⟨L, hL⟩ : ∃ L, (splitC 32 r)[q]? = some L := ⟨_, List.getElem?_eq_getElem (by omega)⟩
      have cL := hfl q L hL
      have hLs : (baT L).size ≤ 281474976710656 := by rw [baT_size]; have := hsm.1 L (List.mem_of_getElem? hL); omega
      have HFL := Lib.hid hfl
      have HQ := Lib.hid hq
      have HL := Lib.hid hL
      have HLEN := Lib.hid hlen2
      clear hown2 hrd2 ha2 hb2 HOW HOL HOS hfl hq hL hlen2 hsm hne2 hm
      have hlD : (splitC 32 r).getLastD [] = L := last_at (by have := HLEN.out; have := HQ.out; omega) HL.out
      obtain ⟨x, y, hv⟩ : ∃ x y, numP L 0 1000000 = (x, y) := ⟨_, _, rfl⟩
      obtain ⟨h0, hh0⟩ : ∃ h0, (splitC 32 r)[0]? = some h0 := ⟨_, List.getElem?_eq_getElem (by have := HLEN.out; omega)⟩
      have ch := HFL.out 0 h0 hh0
      simp only [Nat.add_zero] at ch
      have HLD := Lib.hid hlD
      have HV := Lib.hid hv
      have HH := Lib.hid (headF_at hh0)
      clear hlD hv hh0
      go_wp2_with fail
      refine (number54 (baT L) hLs _).mono ?_
      rintro e w3 ⟨rfl, hb3⟩
      rw [baT_list, HV.out]
      have hw3 := hb3.size
      have HB3 := Lib.hid (cur_step1 HB2.out hb3)
      have HX3 := Lib.hid (cur_step1 HX2.out hb3)
      have HOW3 := Lib.hid (own_below HOW2.out hb3 (Nat.le_refl _))
      have HOL3 := Lib.hid (own_below HOL2.out hb3 (Nat.le_refl _))
      have HOS3 := Lib.hid (own_below HOS2.out hb3 (Nat.le_refl _))
      have ch3 := (hb3.cell (p := ⟨b2, off2, none⟩) hbb2).trans ch
      have HFL3 := Lib.hid (show ∀ (k : Nat) x, (splitC 32 r)[k]? = some x → w3.cell? ⟨b2, off2 + k, none⟩ = some (.string (baT x)) from fun k x h => (hb3.cell (p := ⟨b2, off2 + k, none⟩) hbb2).trans (HFL.out k x h))
      clear ch cL hb3 HOW2 HOL2 HOS2 HFL
      (try simp only [])
      by_cases hy : y = 0
      · subst hy
        by_cases hW : h0 = sWIN
        · subst hW
          obtain ⟨X0, hX0⟩ : ∃ X0, baT sWIN = X0 := ⟨_, rfl⟩
          rw [hX0] at ch3
          have gW : (X0.toList == [87, 73, 78, 68, 79, 87]) = true := by rw [← hX0, baT_toList]; rfl
          have gJ : (X0.toList == [74, 79, 73, 78]) = false := by rw [← hX0, baT_toList]; first | rfl | (simpa using (by decide))
          have gL : (X0.toList == [76, 69, 65, 86, 69]) = false := by rw [← hX0, baT_toList]; first | rfl | (simpa using (by decide))
          clear hX0
          by_cases hm : m = 3
          · subst hm
            obtain ⟨a, b', c', hf⟩ := three_of (f := splitC 32 r) (by have := HLEN.out; omega)
            have ha0 : a = sWIN := by have := HH.out; rw [hf] at this; simpa using this
            obtain ⟨x1, y1, hv1⟩ : ∃ x1 y1, numP b' 0 1000000 = (x1, y1) := ⟨_, _, rfl⟩
            have hit := item_win HLD.out HV.out hf ha0 hv1
            have cb := HFL3.out 1 b' (by rw [hf]; rfl)
            have hbs1 : (baT b').size ≤ 281474976710656 := by
              rw [baT_size]
              have := (splitC_small 32 r).1 b' (by rw [hf]; simp)
              omega
            have HV1 := Lib.hid hv1
            clear hf ha0 hv1
            go_wp2_with fail
            refine (number54 (baT b') hbs1 _).mono ?_
            rintro e w4 ⟨rfl, hb4⟩
            rw [baT_list, HV1.out]
            have HB4 := Lib.hid (cur_step1 HB3.out hb4)
            have HOW4 := Lib.hid (own_below HOW3.out hb4 (Nat.le_refl _))
            have HOL4 := Lib.hid (own_below HOL3.out hb4 (Nat.le_refl _))
            have HOS4 := Lib.hid (own_below HOS3.out hb4 (Nat.le_refl _))
            clear hb4 cb
            (try simp only [])
            by_cases hy1 : y1 = 0
            · have HI := Lib.hid (show itemT (splitC 32 r) = some (.inl ⟨x1, x⟩) by rw [hit, if_neg (by simpa using hy1)])
              have gy : (y1 == 0) = true := by simpa using hy1
              go_wp2_with (at_builtin; refine wpList_app1 Tryz.rwElem _ rfl (.tmp 65) (.tmp 69) rfl w.heap.size Aw cw ws rfl ?o1 ⟨x1, x⟩ w4.heap.size 1 rfl ?o2 ?o3 ?o4 ?o5 ?_)
              case o1 => exact own_below HOW4.out (cur_new _ _) (Nat.le_refl _)
              case o2 => first | exact heap_alloc_new _ _ | exact (Array.getElem?_eq_some_iff.1 (heap_alloc_new _ _)).2
              case o3 => have := HCNT.out; unfold maxLen; omega
              case o4 => have := HCNT.out; omega
              case o5 => have := HB4.out.size; first | omega | (simp; omega)
              intro g2 cap w6 ha
              obtain ⟨z1, z2, z3, z4⟩ := app_three (cur_step1 HB4.out (cur_new w4 _)) (Nat.le_refl _) (Nat.le_refl _) (own_below HOW4.out (cur_new _ _) (Nat.le_refl _)) (own_below HOL4.out (cur_new _ _) (Nat.le_refl _)) (own_below HOS4.out (cur_new _ _) (Nat.le_refl _)) ha (by decide) (by decide)
              have HZ1 := Lib.hid z1
              have HZ2 := Lib.hid z2
              have HZ3 := Lib.hid z3
              have HZ4 := Lib.hid z4
              have HN := Lib.hid (rowsT_nw HR.out HRW.out HI.out)
              clear ha z1 z2 z3 z4
              go_wp2_with fail
              go_roundw
              case rel => exact ⟨k + 1, ws ++ [⟨x1, x⟩], ls, some ⟨g2, 0, none⟩, cap, Al, cl, hlt, by simp, by simp, rfl, HN.out, by simpa using HZ1.out, HZ2.out, HZ3.out, HZ4.out⟩
              case measure => simp [intOf] <;> omega
            · have HN := Lib.hid (rowsT_bad HR.out (show itemT (splitC 32 r) = none by rw [hit, if_pos hy1]))
              have gy : (y1 == 0) = false := by simpa using hy1
              clear hy1
              go_wp2_with fail
              refine bodyPost_ret (results_tmp3 rfl _ _ _) rfl ?_
              unfold ParT
              rw [HN.out]
              exact ⟨_, _, rfl, ⟨rfl, .inl ⟨rfl, rfl⟩⟩, ⟨rfl, .inl ⟨rfl, rfl⟩⟩, HB4.out⟩
          · have HN := Lib.hid (rowsT_bad HR.out (show itemT (splitC 32 r) = none from item_else (fun h => hm (by have := HLEN.out; have := h.2; omega)) (fun h => by have h1 := h.1; rw [HH.out] at h1; revert h1; decide) (fun h => by have h1 := h.1; rw [HH.out] at h1; revert h1; decide)))
            have gm : ((m : Int) == 3) = false := by simp; omega
            clear hm
            go_wp2_with fail
            refine bodyPost_ret (results_tmp3 rfl _ _ _) rfl ?_
            unfold ParT
            rw [HN.out]
            exact ⟨_, _, rfl, ⟨rfl, .inl ⟨rfl, rfl⟩⟩, ⟨rfl, .inl ⟨rfl, rfl⟩⟩, HB3.out⟩
        · by_cases hJ : h0 = sJOIN
          · subst hJ
            obtain ⟨X0, hX0⟩ : ∃ X0, baT sJOIN = X0 := ⟨_, rfl⟩
            rw [hX0] at ch3
            have gW : (X0.toList == [87, 73, 78, 68, 79, 87]) = false := by rw [← hX0, baT_toList]; first | rfl | (simpa using (by decide))
            have gJ : (X0.toList == [74, 79, 73, 78]) = true := by rw [← hX0, baT_toList]; rfl
            have gL : (X0.toList == [76, 69, 65, 86, 69]) = false := by rw [← hX0, baT_toList]; first | rfl | (simpa using (by decide))
            clear hX0
            by_cases hm : m = 4
            · subst hm
              obtain ⟨a, b', c', d', hf⟩ := four_of (f := splitC 32 r) (by have := HLEN.out; omega)
              have ha0 : a = sJOIN := by have := HH.out; rw [hf] at this; simpa using this
              have HI := Lib.hid (item_join HLD.out HV.out hf ha0)
              have cb := HFL3.out 1 b' (by rw [hf]; rfl)
              have cc := HFL3.out 2 c' (by rw [hf]; rfl)
              clear hf ha0
              go_wp2_with fail
              go_region_law (refine step_app1 Tryz.trElemP _ (by rfl) (.tmp 81) (.tmp 90) (by rfl) w.heap.size Al cl ls (by rfl) (by first | exact own_below HOL3.out (cur_new _ _).drew (Nat.le_refl _) | exact own_below HOL3.out (cur_new _ _) (Nat.le_refl _)) ⟨baT b', baT c', x⟩ w3.heap.size 1 (by rfl) (by exact heap_alloc_new w3 _) (by have := HCNT.out; unfold maxLen; omega) (by have := HCNT.out; omega) (by have := HB3.out.size; first | omega | (simp; omega)) ?_; intro g2 cap w6 ha; obtain ⟨z1, z2, z3, z4⟩ := app_three (cur_step1 HB3.out (cur_new w3 _).drew) (Nat.le_refl _) (Nat.le_refl _) (own_below HOL3.out (cur_new _ _).drew (Nat.le_refl _)) (own_below HOW3.out (cur_new _ _).drew (Nat.le_refl _)) (own_below HOS3.out (cur_new _ _).drew (Nat.le_refl _)) ha (by decide) (by decide); have HZ1 := Lib.hid z1; have HZ2 := Lib.hid z2; have HZ3 := Lib.hid z3; have HZ4 := Lib.hid z4; clear ha z1 z2 z3 z4)
              all_goals
                have HN := Lib.hid (rowsT_nt HR.out HRW.out HI.out)
                go_wp2_with fail
                go_roundw
                case rel => exact ⟨k + 1, ws, ls ++ [⟨baT b', baT c', x⟩], Aw, cw, some ⟨g2, 0, none⟩, cap, hlt, by simp, rfl, by simp, HN.out, HZ2.out, by simpa using HZ1.out, HZ3.out, HZ4.out⟩
                case measure => simp [intOf] <;> omega
            · have HN := Lib.hid (rowsT_bad HR.out (show itemT (splitC 32 r) = none from item_else (fun h => by have h1 := h.1; rw [HH.out] at h1; revert h1; decide) (fun h => hm (by have := HLEN.out; have := h.2; omega)) (fun h => by have h1 := h.1; rw [HH.out] at h1; revert h1; decide)))
              have gm : ((m : Int) == 4) = false := by simp; omega
              clear hm
              go_wp2_with fail
              refine bodyPost_ret (results_tmp3 rfl _ _ _) rfl ?_
              unfold ParT
              rw [HN.out]
              exact ⟨_, _, rfl, ⟨rfl, .inl ⟨rfl, rfl⟩⟩, ⟨rfl, .inl ⟨rfl, rfl⟩⟩, HB3.out⟩
          · by_cases hL : h0 = sLEAVE
            · subst hL
              obtain ⟨X0, hX0⟩ : ∃ X0, baT sLEAVE = X0 := ⟨_, rfl⟩
              rw [hX0] at ch3
              have gW : (X0.toList == [87, 73, 78, 68, 79, 87]) = false := by rw [← hX0, baT_toList]; first | rfl | (simpa using (by decide))
              have gJ : (X0.toList == [74, 79, 73, 78]) = false := by rw [← hX0, baT_toList]; first | rfl | (simpa using (by decide))
              have gL : (X0.toList == [76, 69, 65, 86, 69]) = true := by rw [← hX0, baT_toList]; rfl
              clear hX0
              by_cases hm : m = 3
              · subst hm
                obtain ⟨a, b', c', hf⟩ := three_of (f := splitC 32 r) (by have := HLEN.out; omega)
                have ha0 : a = sLEAVE := by have := HH.out; rw [hf] at this; simpa using this
                have HI := Lib.hid (item_leave HLD.out HV.out hf ha0)
                have cb := HFL3.out 1 b' (by rw [hf]; rfl)
                clear hf ha0
                go_wp2_with (at_builtin; refine wpList_app1 Tryz.trElemP _ rfl (.tmp 102) (.tmp 108) rfl w.heap.size Al cl ls rfl ?o1 ⟨baT b', ⟨#[]⟩, x⟩ w3.heap.size 1 rfl ?o2 ?o3 ?o4 ?o5 ?_)
                case o1 => exact own_below HOL3.out (cur_new _ _) (Nat.le_refl _)
                case o2 => first | exact heap_alloc_new _ _ | exact (Array.getElem?_eq_some_iff.1 (heap_alloc_new _ _)).2
                case o3 => have := HCNT.out; unfold maxLen; omega
                case o4 => have := HCNT.out; omega
                case o5 => have := HB3.out.size; first | omega | (simp; omega)
                intro g2 cap w6 ha
                obtain ⟨z1, z2, z3, z4⟩ := app_three (cur_step1 HB3.out (cur_new w3 _)) (Nat.le_refl _) (Nat.le_refl _) (own_below HOL3.out (cur_new _ _) (Nat.le_refl _)) (own_below HOW3.out (cur_new _ _) (Nat.le_refl _)) (own_below HOS3.out (cur_new _ _) (Nat.le_refl _)) ha (by decide) (by decide)
                have HZ1 := Lib.hid z1
                have HZ2 := Lib.hid z2
                have HZ3 := Lib.hid z3
                have HZ4 := Lib.hid z4
                have HN := Lib.hid (rowsT_nt HR.out HRW.out HI.out)
                clear ha z1 z2 z3 z4
                go_wp2_with fail
                go_roundw
                case rel => exact ⟨k + 1, ws, ls ++ [⟨baT b', ⟨#[]⟩, x⟩], Aw, cw, some ⟨g2, 0, none⟩, cap, hlt, by simp, rfl, by simp, HN.out, HZ2.out, by simpa using HZ1.out, HZ3.out, HZ4.out⟩
                case measure => simp [intOf] <;> omega
              · have HN := Lib.hid (rowsT_bad HR.out (show itemT (splitC 32 r) = none from item_else (fun h => by have h1 := h.1; rw [HH.out] at h1; revert h1; decide) (fun h => by have h1 := h.1; rw [HH.out] at h1; revert h1; decide) (fun h => hm (by have := HLEN.out; have := h.2; omega))))
                have gm : ((m : Int) == 3) = false := by simp; omega
                clear hm
                go_wp2_with fail
                refine bodyPost_ret (results_tmp3 rfl _ _ _) rfl ?_
                unfold ParT
                rw [HN.out]
                exact ⟨_, _, rfl, ⟨rfl, .inl ⟨rfl, rfl⟩⟩, ⟨rfl, .inl ⟨rfl, rfl⟩⟩, HB3.out⟩
            · have HN := Lib.hid (rowsT_bad HR.out (show itemT (splitC 32 r) = none from item_else (fun h => hW (by rw [← h.1, HH.out])) (fun h => hJ (by rw [← h.1, HH.out])) (fun h => hL (by rw [← h.1, HH.out]))))
              obtain ⟨X0, hX0⟩ : ∃ X0, baT h0 = X0 := ⟨_, rfl⟩
              rw [hX0] at ch3
              have gW : (X0.toList == [87, 73, 78, 68, 79, 87]) = false := by rw [← hX0]; exact baT_ne hW
              have gJ : (X0.toList == [74, 79, 73, 78]) = false := by rw [← hX0]; exact baT_ne hJ
              have gL : (X0.toList == [76, 69, 65, 86, 69]) = false := by rw [← hX0]; exact baT_ne hL
              clear hX0 hW hJ hL
              go_wp2_with fail
              refine bodyPost_ret (results_tmp3 rfl _ _ _) rfl ?_
              unfold ParT
              rw [HN.out]
              exact ⟨_, _, rfl, ⟨rfl, .inl ⟨rfl, rfl⟩⟩, ⟨rfl, .inl ⟨rfl, rfl⟩⟩, HB3.out⟩
      · have HN := Lib.hid (rowsT_bad HR.out (item_no HLD.out HV.out hy))
        have gy : (y == 0) = false := by simpa using hy
        clear hy
        go_wp2_with fail
        refine bodyPost_ret (results_tmp3 rfl _ _ _) rfl ?_
        unfold ParT
        rw [HN.out]
        exact ⟨_, _, rfl, ⟨rfl, .inl ⟨rfl, rfl⟩⟩, ⟨rfl, .inl ⟨rfl, rfl⟩⟩, HB3.out⟩
    · have hke : k = R.length := by omega
      subst hke
      have hRW := HRW.out
      rw [List.take_length] at hRW
      have hz1 := (rowsT_size (n := 1000) hRW HRs.out).1
      have hcw := own_cap HOW.out
      have hcl := own_cap HOL.out
      have hrdw := (own_rd wnE_len HOW.out).1
      have hrdl := (own_rd trE_len HOL.out).1
      obtain ⟨hcn1, hcn2⟩ := HCNT.out
      have hl2 : ls.length ≤ 2000 := by omega
      have hl1 : ws.length ≤ 1000000 := by omega
      obtain ⟨T, eT, hT⟩ : ∃ T e, TxtT ws ls = (T, e) := ⟨_, _, rfl⟩
      have HT := Lib.hid hT
      have HRW2 := Lib.hid hRW
      have HZ1 := Lib.hid (show ∀ (k : Nat) z, ls[k]? = some z → z.p.size ≤ 9223372036854775807 ∧ z.t.size ≤ 9223372036854775807 from fun k z hz => by have := hz1 z (List.mem_of_getElem? hz); omega)
      have HRDW := Lib.hid hrdw
      have HRDL := Lib.hid hrdl
      clear hRW hT hz1 hrdw hrdl
      go_wp2_with fail
      refine (text_r Aw cw ws Al cl ls _ hl1 hl2 hcw hcl HRDW.out HRDL.out HZ1.out).mono ?_
      rintro e w2 ⟨rfl, hb2⟩
      have HB2 := Lib.hid (cur_step1 HB.out hb2)
      have HOW2 := Lib.hid (own_below HOW.out hb2 (Nat.le_refl _))
      have HOL2 := Lib.hid (own_below HOL.out hb2 (Nat.le_refl _))
      rw [HT.out]
      (try simp only [])
      clear hb2 hcn1 hcn2 hl1 hl2 hcw hcl
      by_cases g : eT = 0
      · have g1 : (eT != 0) = false := by rw [g]; rfl
        by_cases g5 : T = s.data.toList
        · have g2 : (T == s.toList) = true := by rw [ByteArray.toList_eq, g5]; simp
          have HP := Lib.hid (show ParT R s.data.toList = (ws, ls, 0) by unfold ParT; rw [HRW2.out]; simp only []; rw [HT.out, if_pos ⟨g, g5⟩])
          clear g5
          go_wp2_with fail
          refine bodyPost_ret (results_tmp3 rfl _ _ _) rfl ?_
          rw [HP.out]
          exact ⟨_, _, rfl, HOW2.out, HOL2.out, HB2.out⟩
        · have g2 : (T == s.toList) = false := by rw [ByteArray.toList_eq]; exact beq_false_of_ne g5
          have HP := Lib.hid (show ParT R s.data.toList = ([], [], 4) by unfold ParT; rw [HRW2.out]; simp only []; rw [HT.out, if_neg (fun h => g5 h.2)])
          clear g5
          go_wp2_with fail
          refine bodyPost_ret (results_tmp3 rfl _ _ _) rfl ?_
          rw [HP.out]
          exact ⟨_, _, rfl, ⟨rfl, .inl ⟨rfl, rfl⟩⟩, ⟨rfl, .inl ⟨rfl, rfl⟩⟩, HB2.out⟩
      · have g1 : (eT != 0) = true := by simpa using g
        have HP := Lib.hid (show ParT R s.data.toList = ([], [], 4) by unfold ParT; rw [HRW2.out]; simp only []; rw [HT.out, if_neg (fun h => g h.1)])
        clear g
        go_wp2_with fail
        refine bodyPost_ret (results_tmp3 rfl _ _ _) rfl ?_
        rw [HP.out]
        exact ⟨_, _, rfl, ⟨rfl, .inl ⟨rfl, rfl⟩⟩, ⟨rfl, .inl ⟨rfl, rfl⟩⟩, HB2.out⟩
end Go.Proofs.YtpninpohligomaaGreatDoor
