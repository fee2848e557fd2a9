/-
  Chapter 54: Parse of the program: a range over strings.Lines.
-/
import Derived.Test.YtpninpohligomaaGreatDoorLinC54
import Derived.Test.YtpninpohligomaaGreatDoorPcS54
import Derived.Test.YtpninpohligomaaGreatDoorTx54
import Derived.Test.YtpninpohligomaaGreatDoorParR54
set_option linter.unusedSimpArgs false
set_option linter.unusedVariables false
namespace Go.Proofs.YtpninpohligomaaGreatDoor
open Go.RowKit
attribute [local go_sem] Oper.semAt_some
set_option maxRecDepth 100000
set_option maxHeartbeats 4000000
theorem Tryz.infoWinP : (Tryz.prog.info? 48).map (fun i => (i.zero, i.size, i.bytes)) = some (some (.agg #[.int .i64 0, .int .i64 0]), 2, 16) := by kernel_rfl
theorem Tryz.winElemP : ElemOf Tryz.prog wnE 2 16 35 48 := .mk' Tryz.infoWinP rfl Tryz.underlying35 (by decide) wnE_len (fun x u hu => by simp [wnE] at hu; rcases hu with rfl | rfl <;> rfl)
theorem parse_p (s : ByteArray) (w : World) (hs : s.size ≤ 1000) (hW : LibW w) :
    Calls Tryz.prog 19 #[.string s] w fun e w' => ∃ v1 v2, e = .returned (.tuple #[v1, v2, .int .i64 (ParT (rowsR (splitC 10 s.data.toList)) s.data.toList).2.2]) ∧ OwnL wnE 2 48 w.heap.size w' v1 (ParT (rowsR (splitC 10 s.data.toList)) s.data.toList).1 ∧
      OwnL trE 3 51 w.heap.size w' v2 (ParT (rowsR (splitC 10 s.data.toList)) s.data.toList).2.1 ∧ Below w.heap.size w w' := by
  have HLW := Lib.hid hW
  obtain ⟨R, hR⟩ : ∃ R, rowsR (splitC 10 s.data.toList) = R := ⟨_, rfl⟩
  rw [hR]
  have HRR0 := Lib.hid hR
  clear hW hR
  refine (callsIn_wide (n := 5)).1 ?_
  refine callsIn_of_wp_marks Tryz.func19 rfl trivial ?_ rfl
  simp only [Tryz.ntmps19, List.size_toArray, List.length_cons, List.length_nil, Nat.reduceAdd, Nat.reduceSub, Array.replicate_succ, Array.replicate_zero, List.push_toArray, List.append_toArray, List.nil_append, List.cons_append]
  gi_wp2_with (refine ⟨trivial, ?_⟩; gi_at_call 33; refine (callsIn_wide.2 (Tryz.lines_p s _)).mono ?_; rintro e w' ⟨rfl, rfl⟩)
  obtain ⟨W1, hW1⟩ : ∃ W1, ((w.alloc (.cells #[.slice none 0 0] 35)).alloc (.cells #[.slice none 0 0] 36)).alloc (.cells #[.int .i64 0] 25) = W1 := ⟨_, rfl⟩
  have hs1 : W1.heap.size = w.heap.size + 3 := by rw [← hW1]; simp
  have a0 : Boxed W1 w.heap.size 35 (.slice none 0 0) := by rw [← hW1]; exact ((Boxed.new w _ _).alloc _).alloc _
  have a1 : Boxed W1 (w.heap.size + 1) 36 (.slice none 0 0) := by
    rw [← hW1]
    have := Boxed.new (w.alloc (.cells #[.slice none 0 0] 35)) 36 (.slice none 0 0)
    rw [World.size_alloc] at this
    exact this.alloc _
  have a2 : Boxed W1 (w.heap.size + 2) 25 (.int .i64 0) := by
    rw [← hW1]
    have := Boxed.new ((w.alloc (.cells #[.slice none 0 0] 35)).alloc (.cells #[.slice none 0 0] 36)) 25 (.int .i64 0)
    rw [World.size_alloc, World.size_alloc] at this
    exact this
  have ab : Below w.heap.size w W1 := by rw [← hW1]; exact ((cur_new w _).alloc (by simp) _).alloc (by simp; omega) _
  obtain ⟨W0, hW0⟩ : ∃ W0, (((((w.alloc (.cells #[.slice none 0 0] 35)).alloc (.cells #[.slice none 0 0] 36)).alloc (.cells #[.int .i64 0] 25)).alloc (.cells #[.slice none 0 0] 35)).alloc (.cells #[.slice none 0 0] 36)).alloc (.cells #[.string s] 9) = W0 := ⟨_, rfl⟩
  rw [hW0]
  rw [hW1] at hW0
  have hsz0 : W0.heap.size = w.heap.size + 6 := by rw [← hW0]; simp [hs1]
  have b0 : Boxed W0 w.heap.size 35 (.slice none 0 0) := by rw [← hW0]; exact ((a0.alloc _).alloc _).alloc _
  have b1 : Boxed W0 (w.heap.size + 1) 36 (.slice none 0 0) := by rw [← hW0]; exact ((a1.alloc _).alloc _).alloc _
  have b2 : Boxed W0 (w.heap.size + 2) 25 (.int .i64 0) := by rw [← hW0]; exact ((a2.alloc _).alloc _).alloc _
  have b3 : Boxed W0 (w.heap.size + 3) 35 (.slice none 0 0) := by
    rw [← hW0]
    have := Boxed.new W1 35 (.slice none 0 0)
    rw [hs1] at this
    exact (this.alloc _).alloc _
  have b4 : Boxed W0 (w.heap.size + 4) 36 (.slice none 0 0) := by
    rw [← hW0]
    have := Boxed.new (W1.alloc (.cells #[.slice none 0 0] 35)) 36 (.slice none 0 0)
    rw [World.size_alloc, hs1] at this
    exact this.alloc _
  have b5 : Boxed W0 (w.heap.size + 5) 9 (.string s) := by
    rw [← hW0]
    have := Boxed.new ((W1.alloc (.cells #[.slice none 0 0] 35)).alloc (.cells #[.slice none 0 0] 36)) 9 (.string s)
    rw [World.size_alloc, World.size_alloc, hs1] at this
    exact this
  have hbel : Below w.heap.size w W0 := by rw [← hW0]; exact ((ab.alloc (by omega) _).alloc (by simp; omega) _).alloc (by simp; omega) _
  have h0 : PdS w [] W0 := ⟨hbel, b0, b1, b2, ⟨_, b5⟩, _, [], _, [], b3, ⟨rfl, .inl ⟨rfl, rfl⟩⟩, b4, ⟨rfl, .inl ⟨rfl, rfl⟩⟩, rfl⟩
  have HB5 := Lib.hid b5
  have H0 := Lib.hid h0
  clear b0 b1 b2 b3 b4 b5 hbel h0 hW0 hW1 a0 a1 a2 ab hs1
  refine wpIn_rangeFunc_box rfl (by omega) (gf := 56) (lb := #[.pointer (some ⟨w.heap.size + 5, 0, none⟩)]) rfl trivial (enters_of Tryz.func56 (by kernel_rfl) rfl) (Tryz.lines_stops _ (by omega) (w.heap.size + 5) s hs) HB5.out (fun _ => rfl)
    (PdS w) (fun c pre W => c = .ret ∧ PdX w pre W) (PdS.from w (by omega)) (fun c s' X Y row h hg hr => ⟨h.1, PdX.from w (by omega) s' X Y row h.2 hg hr⟩) (fun s' W u h => PdS.set s' W u h) (fun c s' W u h => ⟨h.1, PdX.set s' W u h.2⟩) H0.out
    (fun x => { tmps := #[.string s, undef, .pointer (some ⟨w.heap.size, 0, none⟩), .pointer (some ⟨w.heap.size + 1, 0, none⟩), .pointer (some ⟨w.heap.size + 2, 0, none⟩), .pointer (some ⟨w.heap.size + 3, 0, none⟩), .pointer (some ⟨w.heap.size + 4, 0, none⟩), .string x.1, undef, undef, undef, undef, undef, undef, undef, .string s, .func (.func 56) #[] #[.pointer (some ⟨w.heap.size + 5, 0, none⟩)], .string x.1, undef, undef, undef, undef, undef, undef, undef, undef, undef, undef, undef, undef, undef, undef, undef, undef, undef, undef, undef, undef, undef, undef, undef, undef, undef, undef, undef, undef, undef, undef, undef, undef, undef, undef, undef, undef, undef, undef, undef, undef, undef, undef, undef, undef, undef, undef, undef, undef, undef, undef, undef, undef, undef, undef, undef, undef, undef, undef, undef, undef, undef, undef, undef, undef, undef, undef, undef, undef, undef, undef, undef, undef, undef, undef, undef, undef, undef, undef, undef, undef, undef, undef, undef, undef, undef, undef, undef, undef, undef, undef, undef, undef, undef, undef, undef], defers := [] }) ?assign ?body ?done ?stop
  case assign =>
    intro l x W K hK
    gi_wp2
    exact hK
  case body =>
    rintro l pre x W hsz hI hlt
    obtain ⟨vw, ws, vl, ls, hvw, how, hvl, hol, hrw⟩ := hI.out
    obtain ⟨r, hr⟩ : ∃ r, trimL (lnB x) = r := ⟨_, rfl⟩
    have hrl : r.length ≤ 1000 := by
      have h1 := x.2
      have h2 : (lnB x).length = x.1.size := by unfold lnB; simp
      rw [← hr]; unfold trimL; split
      · rw [List.length_dropLast]; omega
      · omega
    obtain ⟨Aw, cw, rfl, j1, j2⟩ := OwnL.rd wnE_len how
    obtain ⟨Al, cl, rfl, j3, j4⟩ := OwnL.rd trE_len hol
    clear j1 j2 j3 j4
    have hcnt := (rowsT_size (n := 1000) hrw (fun q hq => by
      obtain ⟨y, _, rfl⟩ := List.mem_map.1 hq
      have h1 := y.2
      have h2 : (lnB y).length = y.1.size := by unfold lnB; simp
      unfold trimL; split
      · rw [List.length_dropLast]; omega
      · omega)).2
    have hN := (linesC_small _ s.data.toList (Nat.le_refl _)).2
    have hsl : s.data.toList.length = s.size := by simp
    have hpl : (rowsP pre).length = pre.length := by unfold rowsP; simp
    have HCNT := Lib.hid (show ws.length ≤ 1001 ∧ ls.length ≤ 1001 by omega)
    have HS := Lib.hid hI
    have HVW := Lib.hid hvw
    have HVL := Lib.hid hvl
    have HOW := Lib.hid how
    have HOL := Lib.hid hol
    have HRW := Lib.hid hrw
    have HL := Lib.hid (HLW.out.to hI.below)
    have HRR := Lib.hid hr
    have hx1 : x.1.size ≤ 9223372036854775807 := by have := x.2; omega
    have hb0 := hI.below.size
    have d1 : 1 ≤ (5 : Nat) := by omega
    clear hI hvw hvl how hol hrw hcnt hN hsl hpl hlt hr
    gi_wp2_with (refine ⟨trivial, ?_⟩; gi_at_call 35; refine (inR (Tryz.ts10 x.1 _ hx1)).mono ?_; rintro e w' ⟨rfl, rfl⟩)
    refine ⟨trivial, ?_⟩
    rw [show trimL x.val.data.toList = r from HRR.out]
    refine (inR (Tryz.split32 r hrl _ HL.out)).mono ?_
    rintro e w2 ⟨v2, rfl, hown2, hb2⟩
    obtain ⟨A2, c2, rfl, hrd2, ha2⟩ := OwnL.rd stE_len hown2
    have hcap2 := own_cap hown2
    have HX2 := Lib.hid hb2
    have HL2 := Lib.hid (HL.out.to (by exact hb2))
    have hlen2 := splS_length 32 r
    have hbs2 := hb2.size
    obtain ⟨b2, off2, rfl, hbb2, hfl⟩ := flds hrd2
    obtain ⟨m, hm⟩ : ∃ m, (splS 32 r).length = m := ⟨_, rfl⟩
    rw [hm] at hcap2 hlen2 ⊢
    have hne2 := splitC_ne 32 r
    have hsm := splitC_small 32 r
    obtain ⟨q, hq⟩ : ∃ q, m = q + 1 := by
      cases h : splitC 32 r with
      | nil => exact absurd h hne2
      | cons a t => rw [h] at hlen2; exact ⟨t.length, by simpa using hlen2⟩
    have hqw : IntKind.i64.wrap ((m : Int) - 1) = (q : Int) := by rw [IntKind.wrap_i64]; have := hsm.2; omega
    have hqm : q < m := by omega
    obtain ⟨L, hL⟩ : ∃ L, (splitC 32 r)[q]? = some L := ⟨_, List.getElem?_eq_getElem (by omega)⟩
    have cL := hfl q L hL
    have hLs : (baT L).size ≤ 281474976710656 := by rw [baT_size]; have := hsm.1 L (List.mem_of_getElem? hL); omega
    have hlD : (splitC 32 r).getLastD [] = L := last_at (by omega) hL
    obtain ⟨xv, y, hv⟩ : ∃ x y, numP L 0 1000000 = (x, y) := ⟨_, _, rfl⟩
    obtain ⟨h0, hh0⟩ : ∃ h0, (splitC 32 r)[0]? = some h0 := ⟨_, List.getElem?_eq_getElem (by omega)⟩
    have ch := hfl 0 h0 hh0
    simp only [Nat.add_zero] at ch
    have HFL := Lib.hid hfl
    have HQ := Lib.hid hq
    have HLEN := Lib.hid hlen2
    have HLD := Lib.hid hlD
    have HV := Lib.hid hv
    have HH := Lib.hid (headF_at hh0)
    clear hown2 hrd2 ha2 hb2 hfl hq hL hlen2 hsm hne2 hm hlD hv hh0
    gi_wp2_with fail
    refine ⟨trivial, ?_⟩
    refine (inR (number_t (baT L) hLs 0 1000000 (by decide) (by decide) _ HL2.out)).mono ?_
    rintro e w3 ⟨rfl, hb3⟩
    rw [baT_list, HV.out]
    have hw3 := hb3.size
    have HL3 := Lib.hid (HL2.out.to hb3)
    have HX3 := Lib.hid (cur_step1 HX2.out hb3)
    have HOW3 := Lib.hid (own_below HOW.out HX3.out (Nat.le_refl _))
    have HOL3 := Lib.hid (own_below HOL.out HX3.out (Nat.le_refl _))
    have ch3 := (hb3.cell (p := ⟨b2, off2, none⟩) hbb2).trans ch
    have HFL3 := Lib.hid (show ∀ (k : Nat) x, (splitC 32 r)[k]? = some x → w3.cell? ⟨b2, off2 + k, none⟩ = some (.string (baT x)) from fun k x h => (hb3.cell (p := ⟨b2, off2 + k, none⟩) hbb2).trans (HFL.out k x h))
    have c03 := (boxed_to HS.out.r0 HX3.out).cell
    have f03 := (boxed_to HS.out.r0 HX3.out).frozen
    have c13 := (boxed_to HS.out.r1 HX3.out).cell
    have f13 := (boxed_to HS.out.r1 HX3.out).frozen
    have c23 := (boxed_to HS.out.r2 HX3.out).cell
    have f23 := (boxed_to HS.out.r2 HX3.out).frozen
    have cl3 := (boxed_to HVL.out HX3.out).cell
    clear ch cL hb3 HFL
    (try simp only [])
    by_cases hy : y = 0
    · subst hy
      by_cases hW : h0 = sWIN
      · subst hW
        obtain ⟨X0, hX0⟩ : ∃ X0, baT sWIN = X0 := ⟨_, rfl⟩
        rw [hX0] at ch3
        have gW : (X0.toList == [87, 73, 78, 68, 79, 87]) = true := by rw [← hX0, baT_toList]; rfl
        have gJ : (X0.toList == [74, 79, 73, 78]) = false := by rw [← hX0, baT_toList]; first | rfl | (simpa using (by decide))
        have gL : (X0.toList == [76, 69, 65, 86, 69]) = false := by rw [← hX0, baT_toList]; first | rfl | (simpa using (by decide))
        clear hX0
        by_cases hm : m = 3
        · subst hm
          obtain ⟨a, b', c', hf⟩ := three_of (f := splitC 32 r) (by have := HLEN.out; omega)
          have ha0 : a = sWIN := by have := HH.out; rw [hf] at this; simpa using this
          obtain ⟨x1, y1, hv1⟩ : ∃ x1 y1, numP b' 0 1000000 = (x1, y1) := ⟨_, _, rfl⟩
          have hit := item_win HLD.out HV.out hf ha0 hv1
          have cb := HFL3.out 1 b' (by rw [hf]; rfl)
          have hbs1 : (baT b').size ≤ 281474976710656 := by
            rw [baT_size]
            have := (splitC_small 32 r).1 b' (by rw [hf]; simp)
            omega
          have HV1 := Lib.hid hv1
          clear hf ha0 hv1 c03 f03 c13 f13 c23 f23 cl3
          gi_wp2_with (refine wpListIn_pass (by rfl) (fun _ => trivial) ?_)
          refine ⟨trivial, ?_⟩
          refine (inR (number_t (baT b') hbs1 0 1000000 (by decide) (by decide) _ HL3.out)).mono ?_
          rintro e w4 ⟨rfl, hb4⟩
          rw [baT_list, HV1.out]
          have HX4 := Lib.hid (cur_step1 HX3.out hb4)
          have HOW4 := Lib.hid (own_below HOW3.out hb4 (Nat.le_refl _))
          have c04 := (boxed_to HS.out.r0 HX4.out).cell
          have f04 := (boxed_to HS.out.r0 HX4.out).frozen
          have c14 := (boxed_to HS.out.r1 HX4.out).cell
          have f14 := (boxed_to HS.out.r1 HX4.out).frozen
          have c24 := (boxed_to HS.out.r2 HX4.out).cell
          have f24 := (boxed_to HS.out.r2 HX4.out).frozen
          have hw4 := hb4.size
          clear hb4 cb
          (try simp only [])
          by_cases hy1 : y1 = 0
          · have HI := Lib.hid (show itemT (splitC 32 (trimL (lnB x))) = some (.inl ⟨x1, xv⟩) by rw [HRR.out, hit, if_neg (by simpa using hy1)])
            have gy : (y1 != 0) = false := by simpa using hy1
            have cv4 := (boxed_to HVW.out HX4.out).cell
            clear hy1
            gi_wp2_with (gi_at_builtin; refine wpListIn_app1 Tryz.winElemP _ rfl (.tmp 53) (.tmp 57) rfl w.heap.size Aw cw ws rfl ?o1 ⟨x1, xv⟩ w4.heap.size 1 rfl ?o2 ?o3 ?o4 ?o5 ?_)
            case o1 => exact own_below HOW4.out (cur_new _ _) (Nat.le_refl _)
            case o2 => first | exact heap_alloc_new _ _ | exact (Array.getElem?_eq_some_iff.1 (heap_alloc_new _ _)).2
            case o3 => have := HCNT.out; unfold maxLen; omega
            case o4 => have := HCNT.out; omega
            case o5 => first | omega | (simp; omega)
            intro g2 cap w6 ha
            obtain ⟨hc6, HZ⟩ := pd_win HS.out HX4.out HVW.out HOW.out HVL.out HOL.out HRW.out HI.out ha W0.heap.size
            have HZ := Lib.hid HZ
            have cc6 := hc6.cell
            have ff6 := hc6.frozen
            clear ha hc6 cv4
            gi_wp2_with fail
            exact HZ.out
          · have HN := Lib.hid (show itemT (splitC 32 (trimL (lnB x))) = none by rw [HRR.out, hit, if_pos hy1])
            have gy : (y1 != 0) = true := by simpa using hy1
            clear hy1
            gi_wp2_with (refine wpListIn_pass (by rfl) (fun _ => trivial) ?_)
            exact ⟨(pd_bad HS.out HX4.out HN.out _).1, rfl, (pd_bad HS.out HX4.out HN.out W0.heap.size).2⟩
        · have HN := Lib.hid (show itemT (splitC 32 (trimL (lnB x))) = none by rw [HRR.out]; exact item_else (fun h => hm (by have := HLEN.out; have := h.2; omega)) (fun h => by have h1 := h.1; rw [HH.out] at h1; revert h1; decide) (fun h => by have h1 := h.1; rw [HH.out] at h1; revert h1; decide))
          have gm : ((m : Int) == 3) = false := by simp; omega
          clear hm
          gi_wp2_with (refine wpListIn_pass (by rfl) (fun _ => trivial) ?_)
          exact ⟨(pd_bad HS.out HX3.out HN.out _).1, rfl, (pd_bad HS.out HX3.out HN.out W0.heap.size).2⟩
      · by_cases hJ : h0 = sJOIN
        · subst hJ
          obtain ⟨X0, hX0⟩ : ∃ X0, baT sJOIN = X0 := ⟨_, rfl⟩
          rw [hX0] at ch3
          have gW : (X0.toList == [87, 73, 78, 68, 79, 87]) = false := by rw [← hX0, baT_toList]; first | rfl | (simpa using (by decide))
          have gJ : (X0.toList == [74, 79, 73, 78]) = true := by rw [← hX0, baT_toList]; rfl
          have gL : (X0.toList == [76, 69, 65, 86, 69]) = false := by rw [← hX0, baT_toList]; first | rfl | (simpa using (by decide))
          clear hX0
          by_cases hm : m = 4
          · subst hm
            obtain ⟨a, b', c', d', hf⟩ := four_of (f := splitC 32 r) (by have := HLEN.out; omega)
            have ha0 : a = sJOIN := by have := HH.out; rw [hf] at this; simpa using this
            have HI := Lib.hid (show itemT (splitC 32 (trimL (lnB x))) = some (.inr ⟨baT b', baT c', xv⟩) by rw [HRR.out]; exact item_join HLD.out HV.out hf ha0)
            have cb := HFL3.out 1 b' (by rw [hf]; rfl)
            have cc := HFL3.out 2 c' (by rw [hf]; rfl)
            clear hf ha0 c03 f03 c13 f13 c23 f23
            have hlt3 : w.heap.size + 4 < w3.heap.size := (boxed_to HVL.out HX3.out).lt
            gi_wp2_with (refine wpListIn_pass (by rfl) (fun _ => trivial) ?_)
            refine wpIn_region_rnd (by kernel_rfl) (by kernel_rfl) ?_
            refine wpAnyIn_take (i := 1) (v := ?_) rfl rfl (by kernel_rfl) (by kernel_rfl) (by kernel_rfl) (fun _ _ _ h => h) ⟨Or.inl ⟨by rfl, ?_⟩, fun _ => rfl⟩ ?_
            rotate_left
            · intro w
              go_simp
              try with_reducible rfl
            refine wpAnyIn_take (i := 2) (v := ?_) rfl rfl (by kernel_rfl) (by kernel_rfl) (by kernel_rfl) (fun _ _ _ h => h) ⟨Or.inl ⟨by rfl, ?_⟩, fun _ => rfl⟩ ?_
            rotate_left
            · intro w
              go_simp
              try with_reducible rfl
            refine wpAnyIn_take (i := 4) (v := ?_) rfl rfl (by kernel_rfl) (by kernel_rfl) (by kernel_rfl) (fun _ _ _ h => h) ⟨Or.inl ⟨by rfl, ?_⟩, fun _ => rfl⟩ ?_
            rotate_left
            · intro w
              go_simp
              try with_reducible rfl
            refine wpAnyIn_take (i := 5) (v := ?_) rfl rfl (by kernel_rfl) (by kernel_rfl) (by kernel_rfl) (fun _ _ _ h => h) ⟨Or.inl ⟨by rfl, ?_⟩, fun _ => rfl⟩ ?_
            rotate_left
            · intro w
              go_simp
              try with_reducible rfl
            refine wpAnyIn_take (i := 7) (v := ?_) rfl rfl (by kernel_rfl) (by kernel_rfl) (by kernel_rfl) (fun _ _ _ h => h) ⟨Or.inl ⟨by rfl, ?_⟩, fun _ => rfl⟩ ?_
            rotate_left
            · intro w
              go_simp
              try with_reducible rfl
            refine wpAnyIn_ready (rs := [0, 3, 6]) (by kernel_rfl) (by simp) ?_
            refine AllReadyIn.cons rfl (fun K hK => ?_) (AllReadyIn.cons rfl (fun K hK => ?_) (AllReadyIn.cons rfl (fun K hK => ?_) AllReadyIn.nil))
            · go_simp
              refine hK _ _ ?_
              clear hK K
              refine wpAnyIn_ready (rs := [3, 6]) (by kernel_rfl) (by simp) ?_
              refine AllReadyIn.cons rfl (fun K hK => ?_) (AllReadyIn.cons rfl (fun K hK => ?_) AllReadyIn.nil)
              · go_simp
                refine hK _ _ ?_
                clear hK K
                refine wpAnyIn_ready (rs := [6]) (by kernel_rfl) (by simp) ?_
                refine AllReadyIn.cons rfl (fun K hK => ?_) AllReadyIn.nil
                go_simp
                refine hK _ _ ?_
                clear hK K
                refine wpAnyIn_take (i := 8) (v := ?_) rfl rfl (by kernel_rfl) (by kernel_rfl) (by kernel_rfl) (fun _ _ _ h => h) ⟨Or.inl ⟨by rfl, ?_⟩, fun _ => rfl⟩ ?_
                rotate_left
                · intro w
                  go_simp
                  try with_reducible rfl
                refine wpAnyIn_ready (rs := [9]) (by kernel_rfl) (by simp) ?_
                refine AllReadyIn.cons rfl (fun K hK => ?_) AllReadyIn.nil
                go_simp
                refine hK _ _ ?_
                clear hK K
                refine wpAnyIn_ready (rs := [10]) (by kernel_rfl) (by simp) ?_
                refine AllReadyIn.cons rfl (fun K hK => ?_) AllReadyIn.nil
                refine stepIn_app1 Tryz.trElemP _ (by rfl) (.tmp 69) (.tmp 78) (by rfl) w.heap.size Al cl ls (by rfl) ?own ⟨baT b', baT c', xv⟩ w3.heap.size 1 (by rfl) ?hp ?h3 ?h4 ?sz ?_
                case own => exact own_below HOL3.out (cur_new _ _).drew (Nat.le_refl _)
                case hp => exact heap_alloc_new w3 _
                case h3 => (have := HCNT.out; unfold maxLen; omega)
                case h4 => (have := HCNT.out; omega)
                case sz => (first | omega | (simp; omega))
                intro g2 cap w6 ha
                obtain ⟨hc6, HZ⟩ := pd_tr HS.out HX3.out.drew HVW.out HOW.out HVL.out HOL.out HRW.out HI.out ha W0.heap.size
                have HZ := Lib.hid HZ
                have cc6 := hc6.cell
                have ff6 := hc6.frozen
                clear ha hc6
                refine hK _ _ ?_
                clear hK K
                go_simp
                refine wpAnyIn_ready (rs := [11]) (by kernel_rfl) (by simp) ?_
                refine AllReadyIn.cons rfl (fun K hK => ?_) AllReadyIn.nil
                go_simp
                refine hK _ _ ?_
                clear hK K
                refine wpAnyIn_done (by kernel_rfl) ?_ _
                gi_wp2
                exact HZ.out
              · go_simp
                refine hK _ _ ?_
                clear hK K
                refine wpAnyIn_ready (rs := [3]) (by kernel_rfl) (by simp) ?_
                refine AllReadyIn.cons rfl (fun K hK => ?_) AllReadyIn.nil
                go_simp
                refine hK _ _ ?_
                clear hK K
                refine wpAnyIn_take (i := 8) (v := ?_) rfl rfl (by kernel_rfl) (by kernel_rfl) (by kernel_rfl) (fun _ _ _ h => h) ⟨Or.inl ⟨by rfl, ?_⟩, fun _ => rfl⟩ ?_
                rotate_left
                · intro w
                  go_simp
                  try with_reducible rfl
                refine wpAnyIn_ready (rs := [9]) (by kernel_rfl) (by simp) ?_
                refine AllReadyIn.cons rfl (fun K hK => ?_) AllReadyIn.nil
                go_simp
                refine hK _ _ ?_
                clear hK K
                refine wpAnyIn_ready (rs := [10]) (by kernel_rfl) (by simp) ?_
                refine AllReadyIn.cons rfl (fun K hK => ?_) AllReadyIn.nil
                refine stepIn_app1 Tryz.trElemP _ (by rfl) (.tmp 69) (.tmp 78) (by rfl) w.heap.size Al cl ls (by rfl) ?own ⟨baT b', baT c', xv⟩ w3.heap.size 1 (by rfl) ?hp ?h3 ?h4 ?sz ?_
                case own => exact own_below HOL3.out (cur_new _ _).drew (Nat.le_refl _)
                case hp => exact heap_alloc_new w3 _
                case h3 => (have := HCNT.out; unfold maxLen; omega)
                case h4 => (have := HCNT.out; omega)
                case sz => (first | omega | (simp; omega))
                intro g2 cap w6 ha
                obtain ⟨hc6, HZ⟩ := pd_tr HS.out HX3.out.drew HVW.out HOW.out HVL.out HOL.out HRW.out HI.out ha W0.heap.size
                have HZ := Lib.hid HZ
                have cc6 := hc6.cell
                have ff6 := hc6.frozen
                clear ha hc6
                refine hK _ _ ?_
                clear hK K
                go_simp
                refine wpAnyIn_ready (rs := [11]) (by kernel_rfl) (by simp) ?_
                refine AllReadyIn.cons rfl (fun K hK => ?_) AllReadyIn.nil
                go_simp
                refine hK _ _ ?_
                clear hK K
                refine wpAnyIn_done (by kernel_rfl) ?_ _
                gi_wp2
                exact HZ.out
            · go_simp
              refine hK _ _ ?_
              clear hK K
              refine wpAnyIn_ready (rs := [0, 6]) (by kernel_rfl) (by simp) ?_
              refine AllReadyIn.cons rfl (fun K hK => ?_) (AllReadyIn.cons rfl (fun K hK => ?_) AllReadyIn.nil)
              · go_simp
                refine hK _ _ ?_
                clear hK K
                refine wpAnyIn_ready (rs := [6]) (by kernel_rfl) (by simp) ?_
                refine AllReadyIn.cons rfl (fun K hK => ?_) AllReadyIn.nil
                go_simp
                refine hK _ _ ?_
                clear hK K
                refine wpAnyIn_take (i := 8) (v := ?_) rfl rfl (by kernel_rfl) (by kernel_rfl) (by kernel_rfl) (fun _ _ _ h => h) ⟨Or.inl ⟨by rfl, ?_⟩, fun _ => rfl⟩ ?_
                rotate_left
                · intro w
                  go_simp
                  try with_reducible rfl
                refine wpAnyIn_ready (rs := [9]) (by kernel_rfl) (by simp) ?_
                refine AllReadyIn.cons rfl (fun K hK => ?_) AllReadyIn.nil
                go_simp
                refine hK _ _ ?_
                clear hK K
                refine wpAnyIn_ready (rs := [10]) (by kernel_rfl) (by simp) ?_
                refine AllReadyIn.cons rfl (fun K hK => ?_) AllReadyIn.nil
                refine stepIn_app1 Tryz.trElemP _ (by rfl) (.tmp 69) (.tmp 78) (by rfl) w.heap.size Al cl ls (by rfl) ?own ⟨baT b', baT c', xv⟩ w3.heap.size 1 (by rfl) ?hp ?h3 ?h4 ?sz ?_
                case own => exact own_below HOL3.out (cur_new _ _).drew (Nat.le_refl _)
                case hp => exact heap_alloc_new w3 _
                case h3 => (have := HCNT.out; unfold maxLen; omega)
                case h4 => (have := HCNT.out; omega)
                case sz => (first | omega | (simp; omega))
                intro g2 cap w6 ha
                obtain ⟨hc6, HZ⟩ := pd_tr HS.out HX3.out.drew HVW.out HOW.out HVL.out HOL.out HRW.out HI.out ha W0.heap.size
                have HZ := Lib.hid HZ
                have cc6 := hc6.cell
                have ff6 := hc6.frozen
                clear ha hc6
                refine hK _ _ ?_
                clear hK K
                go_simp
                refine wpAnyIn_ready (rs := [11]) (by kernel_rfl) (by simp) ?_
                refine AllReadyIn.cons rfl (fun K hK => ?_) AllReadyIn.nil
                go_simp
                refine hK _ _ ?_
                clear hK K
                refine wpAnyIn_done (by kernel_rfl) ?_ _
                gi_wp2
                exact HZ.out
              · go_simp
                refine hK _ _ ?_
                clear hK K
                refine wpAnyIn_take (i := 8) (v := ?_) rfl rfl (by kernel_rfl) (by kernel_rfl) (by kernel_rfl) (fun _ _ _ h => h) ⟨Or.inl ⟨by rfl, ?_⟩, fun _ => rfl⟩ ?_
                rotate_left
                · intro w
                  go_simp
                  try with_reducible rfl
                refine wpAnyIn_ready (rs := [0, 9]) (by kernel_rfl) (by simp) ?_
                refine AllReadyIn.cons rfl (fun K hK => ?_) (AllReadyIn.cons rfl (fun K hK => ?_) AllReadyIn.nil)
                · go_simp
                  refine hK _ _ ?_
                  clear hK K
                  refine wpAnyIn_ready (rs := [9]) (by kernel_rfl) (by simp) ?_
                  refine AllReadyIn.cons rfl (fun K hK => ?_) AllReadyIn.nil
                  go_simp
                  refine hK _ _ ?_
                  clear hK K
                  refine wpAnyIn_ready (rs := [10]) (by kernel_rfl) (by simp) ?_
                  refine AllReadyIn.cons rfl (fun K hK => ?_) AllReadyIn.nil
                  refine stepIn_app1 Tryz.trElemP _ (by rfl) (.tmp 69) (.tmp 78) (by rfl) w.heap.size Al cl ls (by rfl) ?own ⟨baT b', baT c', xv⟩ w3.heap.size 1 (by rfl) ?hp ?h3 ?h4 ?sz ?_
                  case own => exact own_below HOL3.out (cur_new _ _).drew (Nat.le_refl _)
                  case hp => exact heap_alloc_new w3 _
                  case h3 => (have := HCNT.out; unfold maxLen; omega)
                  case h4 => (have := HCNT.out; omega)
                  case sz => (first | omega | (simp; omega))
                  intro g2 cap w6 ha
                  obtain ⟨hc6, HZ⟩ := pd_tr HS.out HX3.out.drew HVW.out HOW.out HVL.out HOL.out HRW.out HI.out ha W0.heap.size
                  have HZ := Lib.hid HZ
                  have cc6 := hc6.cell
                  have ff6 := hc6.frozen
                  clear ha hc6
                  refine hK _ _ ?_
                  clear hK K
                  go_simp
                  refine wpAnyIn_ready (rs := [11]) (by kernel_rfl) (by simp) ?_
                  refine AllReadyIn.cons rfl (fun K hK => ?_) AllReadyIn.nil
                  go_simp
                  refine hK _ _ ?_
                  clear hK K
                  refine wpAnyIn_done (by kernel_rfl) ?_ _
                  gi_wp2
                  exact HZ.out
                · go_simp
                  refine hK _ _ ?_
                  clear hK K
                  refine wpAnyIn_ready (rs := [0]) (by kernel_rfl) (by simp) ?_
                  refine AllReadyIn.cons rfl (fun K hK => ?_) AllReadyIn.nil
                  go_simp
                  refine hK _ _ ?_
                  clear hK K
                  refine wpAnyIn_ready (rs := [10]) (by kernel_rfl) (by simp) ?_
                  refine AllReadyIn.cons rfl (fun K hK => ?_) AllReadyIn.nil
                  refine stepIn_app1 Tryz.trElemP _ (by rfl) (.tmp 69) (.tmp 78) (by rfl) w.heap.size Al cl ls (by rfl) ?own ⟨baT b', baT c', xv⟩ w3.heap.size 1 (by rfl) ?hp ?h3 ?h4 ?sz ?_
                  case own => exact own_below HOL3.out (cur_new _ _).drew (Nat.le_refl _)
                  case hp => exact heap_alloc_new w3 _
                  case h3 => (have := HCNT.out; unfold maxLen; omega)
                  case h4 => (have := HCNT.out; omega)
                  case sz => (first | omega | (simp; omega))
                  intro g2 cap w6 ha
                  obtain ⟨hc6, HZ⟩ := pd_tr HS.out HX3.out.drew HVW.out HOW.out HVL.out HOL.out HRW.out HI.out ha W0.heap.size
                  have HZ := Lib.hid HZ
                  have cc6 := hc6.cell
                  have ff6 := hc6.frozen
                  clear ha hc6
                  refine hK _ _ ?_
                  clear hK K
                  go_simp
                  refine wpAnyIn_ready (rs := [11]) (by kernel_rfl) (by simp) ?_
                  refine AllReadyIn.cons rfl (fun K hK => ?_) AllReadyIn.nil
                  go_simp
                  refine hK _ _ ?_
                  clear hK K
                  refine wpAnyIn_done (by kernel_rfl) ?_ _
                  gi_wp2
                  exact HZ.out
            · go_simp
              refine hK _ _ ?_
              clear hK K
              refine wpAnyIn_ready (rs := [0, 3]) (by kernel_rfl) (by simp) ?_
              refine AllReadyIn.cons rfl (fun K hK => ?_) (AllReadyIn.cons rfl (fun K hK => ?_) AllReadyIn.nil)
              · go_simp
                refine hK _ _ ?_
                clear hK K
                refine wpAnyIn_ready (rs := [3]) (by kernel_rfl) (by simp) ?_
                refine AllReadyIn.cons rfl (fun K hK => ?_) AllReadyIn.nil
                go_simp
                refine hK _ _ ?_
                clear hK K
                refine wpAnyIn_take (i := 8) (v := ?_) rfl rfl (by kernel_rfl) (by kernel_rfl) (by kernel_rfl) (fun _ _ _ h => h) ⟨Or.inl ⟨by rfl, ?_⟩, fun _ => rfl⟩ ?_
                rotate_left
                · intro w
                  go_simp
                  try with_reducible rfl
                refine wpAnyIn_ready (rs := [9]) (by kernel_rfl) (by simp) ?_
                refine AllReadyIn.cons rfl (fun K hK => ?_) AllReadyIn.nil
                go_simp
                refine hK _ _ ?_
                clear hK K
                refine wpAnyIn_ready (rs := [10]) (by kernel_rfl) (by simp) ?_
                refine AllReadyIn.cons rfl (fun K hK => ?_) AllReadyIn.nil
                refine stepIn_app1 Tryz.trElemP _ (by rfl) (.tmp 69) (.tmp 78) (by rfl) w.heap.size Al cl ls (by rfl) ?own ⟨baT b', baT c', xv⟩ w3.heap.size 1 (by rfl) ?hp ?h3 ?h4 ?sz ?_
                case own => exact own_below HOL3.out (cur_new _ _).drew (Nat.le_refl _)
                case hp => exact heap_alloc_new w3 _
                case h3 => (have := HCNT.out; unfold maxLen; omega)
                case h4 => (have := HCNT.out; omega)
                case sz => (first | omega | (simp; omega))
                intro g2 cap w6 ha
                obtain ⟨hc6, HZ⟩ := pd_tr HS.out HX3.out.drew HVW.out HOW.out HVL.out HOL.out HRW.out HI.out ha W0.heap.size
                have HZ := Lib.hid HZ
                have cc6 := hc6.cell
                have ff6 := hc6.frozen
                clear ha hc6
                refine hK _ _ ?_
                clear hK K
                go_simp
                refine wpAnyIn_ready (rs := [11]) (by kernel_rfl) (by simp) ?_
                refine AllReadyIn.cons rfl (fun K hK => ?_) AllReadyIn.nil
                go_simp
                refine hK _ _ ?_
                clear hK K
                refine wpAnyIn_done (by kernel_rfl) ?_ _
                gi_wp2
                exact HZ.out
              · go_simp
                refine hK _ _ ?_
                clear hK K
                refine wpAnyIn_take (i := 8) (v := ?_) rfl rfl (by kernel_rfl) (by kernel_rfl) (by kernel_rfl) (fun _ _ _ h => h) ⟨Or.inl ⟨by rfl, ?_⟩, fun _ => rfl⟩ ?_
                rotate_left
                · intro w
                  go_simp
                  try with_reducible rfl
                refine wpAnyIn_ready (rs := [0, 9]) (by kernel_rfl) (by simp) ?_
                refine AllReadyIn.cons rfl (fun K hK => ?_) (AllReadyIn.cons rfl (fun K hK => ?_) AllReadyIn.nil)
                · go_simp
                  refine hK _ _ ?_
                  clear hK K
                  refine wpAnyIn_ready (rs := [9]) (by kernel_rfl) (by simp) ?_
                  refine AllReadyIn.cons rfl (fun K hK => ?_) AllReadyIn.nil
                  go_simp
                  refine hK _ _ ?_
                  clear hK K
                  refine wpAnyIn_ready (rs := [10]) (by kernel_rfl) (by simp) ?_
                  refine AllReadyIn.cons rfl (fun K hK => ?_) AllReadyIn.nil
                  refine stepIn_app1 Tryz.trElemP _ (by rfl) (.tmp 69) (.tmp 78) (by rfl) w.heap.size Al cl ls (by rfl) ?own ⟨baT b', baT c', xv⟩ w3.heap.size 1 (by rfl) ?hp ?h3 ?h4 ?sz ?_
                  case own => exact own_below HOL3.out (cur_new _ _).drew (Nat.le_refl _)
                  case hp => exact heap_alloc_new w3 _
                  case h3 => (have := HCNT.out; unfold maxLen; omega)
                  case h4 => (have := HCNT.out; omega)
                  case sz => (first | omega | (simp; omega))
                  intro g2 cap w6 ha
                  obtain ⟨hc6, HZ⟩ := pd_tr HS.out HX3.out.drew HVW.out HOW.out HVL.out HOL.out HRW.out HI.out ha W0.heap.size
                  have HZ := Lib.hid HZ
                  have cc6 := hc6.cell
                  have ff6 := hc6.frozen
                  clear ha hc6
                  refine hK _ _ ?_
                  clear hK K
                  go_simp
                  refine wpAnyIn_ready (rs := [11]) (by kernel_rfl) (by simp) ?_
                  refine AllReadyIn.cons rfl (fun K hK => ?_) AllReadyIn.nil
                  go_simp
                  refine hK _ _ ?_
                  clear hK K
                  refine wpAnyIn_done (by kernel_rfl) ?_ _
                  gi_wp2
                  exact HZ.out
                · go_simp
                  refine hK _ _ ?_
                  clear hK K
                  refine wpAnyIn_ready (rs := [0]) (by kernel_rfl) (by simp) ?_
                  refine AllReadyIn.cons rfl (fun K hK => ?_) AllReadyIn.nil
                  go_simp
                  refine hK _ _ ?_
                  clear hK K
                  refine wpAnyIn_ready (rs := [10]) (by kernel_rfl) (by simp) ?_
                  refine AllReadyIn.cons rfl (fun K hK => ?_) AllReadyIn.nil
                  refine stepIn_app1 Tryz.trElemP _ (by rfl) (.tmp 69) (.tmp 78) (by rfl) w.heap.size Al cl ls (by rfl) ?own ⟨baT b', baT c', xv⟩ w3.heap.size 1 (by rfl) ?hp ?h3 ?h4 ?sz ?_
                  case own => exact own_below HOL3.out (cur_new _ _).drew (Nat.le_refl _)
                  case hp => exact heap_alloc_new w3 _
                  case h3 => (have := HCNT.out; unfold maxLen; omega)
                  case h4 => (have := HCNT.out; omega)
                  case sz => (first | omega | (simp; omega))
                  intro g2 cap w6 ha
                  obtain ⟨hc6, HZ⟩ := pd_tr HS.out HX3.out.drew HVW.out HOW.out HVL.out HOL.out HRW.out HI.out ha W0.heap.size
                  have HZ := Lib.hid HZ
                  have cc6 := hc6.cell
                  have ff6 := hc6.frozen
                  clear ha hc6
                  refine hK _ _ ?_
                  clear hK K
                  go_simp
                  refine wpAnyIn_ready (rs := [11]) (by kernel_rfl) (by simp) ?_
                  refine AllReadyIn.cons rfl (fun K hK => ?_) AllReadyIn.nil
                  go_simp
                  refine hK _ _ ?_
                  clear hK K
                  refine wpAnyIn_done (by kernel_rfl) ?_ _
                  gi_wp2
                  exact HZ.out
          · have HN := Lib.hid (show itemT (splitC 32 (trimL (lnB x))) = none by rw [HRR.out]; exact item_else (fun h => by have h1 := h.1; rw [HH.out] at h1; revert h1; decide) (fun h => hm (by have := HLEN.out; have := h.2; omega)) (fun h => by have h1 := h.1; rw [HH.out] at h1; revert h1; decide))
            have gm : ((m : Int) == 4) = false := by simp; omega
            clear hm
            gi_wp2_with (refine wpListIn_pass (by rfl) (fun _ => trivial) ?_)
            exact ⟨(pd_bad HS.out HX3.out HN.out _).1, rfl, (pd_bad HS.out HX3.out HN.out W0.heap.size).2⟩
        · by_cases hL : h0 = sLEAVE
          · subst hL
            obtain ⟨X0, hX0⟩ : ∃ X0, baT sLEAVE = X0 := ⟨_, rfl⟩
            rw [hX0] at ch3
            have gW : (X0.toList == [87, 73, 78, 68, 79, 87]) = false := by rw [← hX0, baT_toList]; first | rfl | (simpa using (by decide))
            have gJ : (X0.toList == [74, 79, 73, 78]) = false := by rw [← hX0, baT_toList]; first | rfl | (simpa using (by decide))
            have gL : (X0.toList == [76, 69, 65, 86, 69]) = true := by rw [← hX0, baT_toList]; rfl
            clear hX0
            by_cases hm : m = 3
            · subst hm
              obtain ⟨a, b', c', hf⟩ := three_of (f := splitC 32 r) (by have := HLEN.out; omega)
              have ha0 : a = sLEAVE := by have := HH.out; rw [hf] at this; simpa using this
              have HI := Lib.hid (show itemT (splitC 32 (trimL (lnB x))) = some (.inr ⟨baT b', ⟨#[]⟩, xv⟩) by rw [HRR.out]; exact item_leave HLD.out HV.out hf ha0)
              have cb := HFL3.out 1 b' (by rw [hf]; rfl)
              clear hf ha0 c03 f03 c13 f13 c23 f23
              have hlt3 : w.heap.size + 4 < w3.heap.size := (boxed_to HVL.out HX3.out).lt
              gi_wp2_with (refine wpListIn_pass (by rfl) (fun _ => trivial) ?_)
              refine wpIn_region_rnd (by kernel_rfl) (by kernel_rfl) ?_
              refine wpAnyIn_take (i := 1) (v := ?_) rfl rfl (by kernel_rfl) (by kernel_rfl) (by kernel_rfl) (fun _ _ _ h => h) ⟨Or.inl ⟨by rfl, ?_⟩, fun _ => rfl⟩ ?_
              rotate_left
              · intro w
                go_simp
                try with_reducible rfl
              refine wpAnyIn_take (i := 2) (v := ?_) rfl rfl (by kernel_rfl) (by kernel_rfl) (by kernel_rfl) (fun _ _ _ h => h) ⟨Or.inl ⟨by rfl, ?_⟩, fun _ => rfl⟩ ?_
              rotate_left
              · intro w
                go_simp
                try with_reducible rfl
              refine wpAnyIn_take (i := 4) (v := ?_) rfl rfl (by kernel_rfl) (by kernel_rfl) (by kernel_rfl) (fun _ _ _ h => h) ⟨Or.inl ⟨by rfl, ?_⟩, fun _ => rfl⟩ ?_
              rotate_left
              · intro w
                go_simp
                try with_reducible rfl
              refine wpAnyIn_ready (rs := [0, 3]) (by kernel_rfl) (by simp) ?_
              refine AllReadyIn.cons rfl (fun K hK => ?_) (AllReadyIn.cons rfl (fun K hK => ?_) AllReadyIn.nil)
              · go_simp
                refine hK _ _ ?_
                clear hK K
                refine wpAnyIn_ready (rs := [3]) (by kernel_rfl) (by simp) ?_
                refine AllReadyIn.cons rfl (fun K hK => ?_) AllReadyIn.nil
                go_simp
                refine hK _ _ ?_
                clear hK K
                refine wpAnyIn_take (i := 5) (v := ?_) rfl rfl (by kernel_rfl) (by kernel_rfl) (by kernel_rfl) (fun _ _ _ h => h) ⟨Or.inl ⟨by rfl, ?_⟩, fun _ => rfl⟩ ?_
                rotate_left
                · intro w
                  go_simp
                  try with_reducible rfl
                refine wpAnyIn_ready (rs := [6]) (by kernel_rfl) (by simp) ?_
                refine AllReadyIn.cons rfl (fun K hK => ?_) AllReadyIn.nil
                go_simp
                refine hK _ _ ?_
                clear hK K
                refine wpAnyIn_ready (rs := [7]) (by kernel_rfl) (by simp) ?_
                refine AllReadyIn.cons rfl (fun K hK => ?_) AllReadyIn.nil
                refine stepIn_app1 Tryz.trElemP _ (by rfl) (.tmp 90) (.tmp 96) (by rfl) w.heap.size Al cl ls (by rfl) ?own ⟨baT b', ⟨#[]⟩, xv⟩ w3.heap.size 1 (by rfl) ?hp ?h3 ?h4 ?sz ?_
                case own => exact own_below HOL3.out (cur_new _ _).drew (Nat.le_refl _)
                case hp => exact heap_alloc_new w3 _
                case h3 => (have := HCNT.out; unfold maxLen; omega)
                case h4 => (have := HCNT.out; omega)
                case sz => (first | omega | (simp; omega))
                intro g2 cap w6 ha
                obtain ⟨hc6, HZ⟩ := pd_tr HS.out HX3.out.drew HVW.out HOW.out HVL.out HOL.out HRW.out HI.out ha W0.heap.size
                have HZ := Lib.hid HZ
                have cc6 := hc6.cell
                have ff6 := hc6.frozen
                clear ha hc6
                refine hK _ _ ?_
                clear hK K
                go_simp
                refine wpAnyIn_ready (rs := [8]) (by kernel_rfl) (by simp) ?_
                refine AllReadyIn.cons rfl (fun K hK => ?_) AllReadyIn.nil
                go_simp
                refine hK _ _ ?_
                clear hK K
                refine wpAnyIn_done (by kernel_rfl) ?_ _
                gi_wp2
                exact HZ.out
              · go_simp
                refine hK _ _ ?_
                clear hK K
                refine wpAnyIn_take (i := 5) (v := ?_) rfl rfl (by kernel_rfl) (by kernel_rfl) (by kernel_rfl) (fun _ _ _ h => h) ⟨Or.inl ⟨by rfl, ?_⟩, fun _ => rfl⟩ ?_
                rotate_left
                · intro w
                  go_simp
                  try with_reducible rfl
                refine wpAnyIn_ready (rs := [0, 6]) (by kernel_rfl) (by simp) ?_
                refine AllReadyIn.cons rfl (fun K hK => ?_) (AllReadyIn.cons rfl (fun K hK => ?_) AllReadyIn.nil)
                · go_simp
                  refine hK _ _ ?_
                  clear hK K
                  refine wpAnyIn_ready (rs := [6]) (by kernel_rfl) (by simp) ?_
                  refine AllReadyIn.cons rfl (fun K hK => ?_) AllReadyIn.nil
                  go_simp
                  refine hK _ _ ?_
                  clear hK K
                  refine wpAnyIn_ready (rs := [7]) (by kernel_rfl) (by simp) ?_
                  refine AllReadyIn.cons rfl (fun K hK => ?_) AllReadyIn.nil
                  refine stepIn_app1 Tryz.trElemP _ (by rfl) (.tmp 90) (.tmp 96) (by rfl) w.heap.size Al cl ls (by rfl) ?own ⟨baT b', ⟨#[]⟩, xv⟩ w3.heap.size 1 (by rfl) ?hp ?h3 ?h4 ?sz ?_
                  case own => exact own_below HOL3.out (cur_new _ _).drew (Nat.le_refl _)
                  case hp => exact heap_alloc_new w3 _
                  case h3 => (have := HCNT.out; unfold maxLen; omega)
                  case h4 => (have := HCNT.out; omega)
                  case sz => (first | omega | (simp; omega))
                  intro g2 cap w6 ha
                  obtain ⟨hc6, HZ⟩ := pd_tr HS.out HX3.out.drew HVW.out HOW.out HVL.out HOL.out HRW.out HI.out ha W0.heap.size
                  have HZ := Lib.hid HZ
                  have cc6 := hc6.cell
                  have ff6 := hc6.frozen
                  clear ha hc6
                  refine hK _ _ ?_
                  clear hK K
                  go_simp
                  refine wpAnyIn_ready (rs := [8]) (by kernel_rfl) (by simp) ?_
                  refine AllReadyIn.cons rfl (fun K hK => ?_) AllReadyIn.nil
                  go_simp
                  refine hK _ _ ?_
                  clear hK K
                  refine wpAnyIn_done (by kernel_rfl) ?_ _
                  gi_wp2
                  exact HZ.out
                · go_simp
                  refine hK _ _ ?_
                  clear hK K
                  refine wpAnyIn_ready (rs := [0]) (by kernel_rfl) (by simp) ?_
                  refine AllReadyIn.cons rfl (fun K hK => ?_) AllReadyIn.nil
                  go_simp
                  refine hK _ _ ?_
                  clear hK K
                  refine wpAnyIn_ready (rs := [7]) (by kernel_rfl) (by simp) ?_
                  refine AllReadyIn.cons rfl (fun K hK => ?_) AllReadyIn.nil
                  refine stepIn_app1 Tryz.trElemP _ (by rfl) (.tmp 90) (.tmp 96) (by rfl) w.heap.size Al cl ls (by rfl) ?own ⟨baT b', ⟨#[]⟩, xv⟩ w3.heap.size 1 (by rfl) ?hp ?h3 ?h4 ?sz ?_
                  case own => exact own_below HOL3.out (cur_new _ _).drew (Nat.le_refl _)
                  case hp => exact heap_alloc_new w3 _
                  case h3 => (have := HCNT.out; unfold maxLen; omega)
                  case h4 => (have := HCNT.out; omega)
                  case sz => (first | omega | (simp; omega))
                  intro g2 cap w6 ha
                  obtain ⟨hc6, HZ⟩ := pd_tr HS.out HX3.out.drew HVW.out HOW.out HVL.out HOL.out HRW.out HI.out ha W0.heap.size
                  have HZ := Lib.hid HZ
                  have cc6 := hc6.cell
                  have ff6 := hc6.frozen
                  clear ha hc6
                  refine hK _ _ ?_
                  clear hK K
                  go_simp
                  refine wpAnyIn_ready (rs := [8]) (by kernel_rfl) (by simp) ?_
                  refine AllReadyIn.cons rfl (fun K hK => ?_) AllReadyIn.nil
                  go_simp
                  refine hK _ _ ?_
                  clear hK K
                  refine wpAnyIn_done (by kernel_rfl) ?_ _
                  gi_wp2
                  exact HZ.out
            · have HN := Lib.hid (show itemT (splitC 32 (trimL (lnB x))) = none by rw [HRR.out]; exact item_else (fun h => by have h1 := h.1; rw [HH.out] at h1; revert h1; decide) (fun h => by have h1 := h.1; rw [HH.out] at h1; revert h1; decide) (fun h => hm (by have := HLEN.out; have := h.2; omega)))
              have gm : ((m : Int) == 3) = false := by simp; omega
              clear hm
              gi_wp2_with (refine wpListIn_pass (by rfl) (fun _ => trivial) ?_)
              exact ⟨(pd_bad HS.out HX3.out HN.out _).1, rfl, (pd_bad HS.out HX3.out HN.out W0.heap.size).2⟩
          · have HN := Lib.hid (show itemT (splitC 32 (trimL (lnB x))) = none by rw [HRR.out]; exact item_else (fun h => hW (by rw [← h.1, HH.out])) (fun h => hJ (by rw [← h.1, HH.out])) (fun h => hL (by rw [← h.1, HH.out])))
            obtain ⟨X0, hX0⟩ : ∃ X0, baT h0 = X0 := ⟨_, rfl⟩
            rw [hX0] at ch3
            have gW : (X0.toList == [87, 73, 78, 68, 79, 87]) = false := by rw [← hX0]; exact baT_ne hW
            have gJ : (X0.toList == [74, 79, 73, 78]) = false := by rw [← hX0]; exact baT_ne hJ
            have gL : (X0.toList == [76, 69, 65, 86, 69]) = false := by rw [← hX0]; exact baT_ne hL
            clear hX0 hW hJ hL
            gi_wp2_with (refine wpListIn_pass (by rfl) (fun _ => trivial) ?_)
            exact ⟨(pd_bad HS.out HX3.out HN.out _).1, rfl, (pd_bad HS.out HX3.out HN.out W0.heap.size).2⟩
    · have HN := Lib.hid (show itemT (splitC 32 (trimL (lnB x))) = none by rw [HRR.out]; exact item_no HLD.out HV.out hy)
      have gy : (y != 0) = true := by simpa using hy
      clear hy
      gi_wp2_with (refine wpListIn_pass (by rfl) (fun _ => trivial) ?_)
      exact ⟨(pd_bad HS.out HX3.out HN.out _).1, rfl, (pd_bad HS.out HX3.out HN.out W0.heap.size).2⟩
  case done =>
    rintro D xs W hD hS hI hK
    obtain ⟨vw, ws, vl, ls, hvw, how, hvl, hol, hrw⟩ := hI.out
    have hxs : rowsP xs = rowsR (splitC 10 s.data.toList) := by
      rw [← linesC_trim, ← hS, List.map_map]; rfl
    rw [hxs, HRR0.out] at hrw
    have hsl : s.data.toList.length = s.size := by simp
    obtain ⟨hsm, hlen⟩ := linesC_small _ s.data.toList (Nat.le_refl _)
    have hrs : ∀ r ∈ R, r.length ≤ 1000 := by
      rw [← HRR0.out, ← linesC_trim]
      intro r hr
      obtain ⟨y, hy, rfl⟩ := List.mem_map.1 hr
      have h2 := hsm y hy
      unfold trimL; split
      · rw [List.length_dropLast]; omega
      · omega
    obtain ⟨hz1, hz2⟩ := rowsT_size (n := 1000) hrw hrs
    have hRl : R.length ≤ 1000 := by
      rw [← HRR0.out, ← linesC_trim, List.length_map]; omega
    obtain ⟨Aw, cw, rfl, hrdw, j1⟩ := OwnL.rd wnE_len how
    obtain ⟨Al, cl, rfl, hrdl, j2⟩ := OwnL.rd trE_len hol
    clear j1 j2
    have hl2 : ls.length ≤ 2000 := by omega
    have hl1 : ws.length ≤ 1000000 := by omega
    have hcw := own_cap how
    have hcl := own_cap hol
    obtain ⟨T, eT, hT⟩ : ∃ T e, TxtT ws ls = (T, e) := ⟨_, _, rfl⟩
    have HT := Lib.hid hT
    have HRW := Lib.hid hrw
    have HZ1 := Lib.hid (show ∀ (k : Nat) z, ls[k]? = some z → z.p.size ≤ 9223372036854775807 ∧ z.t.size ≤ 9223372036854775807 from fun k z hz => by have := hz1 z (List.mem_of_getElem? hz); omega)
    have HRDW := Lib.hid hrdw
    have HRDL := Lib.hid hrdl
    have HI := Lib.hid hI
    have HL := Lib.hid (HLW.out.to hI.below)
    have HVW := Lib.hid hvw
    have HVL := Lib.hid hvl
    have HOW := Lib.hid how
    have HOL := Lib.hid hol
    have HK := Lib.hid hK
    have cv : W.cell? ⟨w.heap.size + 1 + 1 + 1, 0, none⟩ = some (.slice Aw ws.length cw) := hvw.cell
    have cl' : W.cell? ⟨w.heap.size + 1 + 1 + 1 + 1, 0, none⟩ = some (.slice Al ls.length cl) := hvl.cell
    have hDW := (Array.getElem?_eq_some_iff.1 hK).1
    clear hS hI hK hvw hvl how hol hrw hxs hsl hsm hlen hrs hz1 hz2 hRl hrdw hrdl hT
    gi_wp2_with fail
    refine ⟨trivial, ?_⟩
    refine (callsIn_wide.2 (text_p Aw cw ws Al cl ls _ hl1 hl2 hcw hcl HRDW.out HRDL.out HZ1.out HL.out)).mono ?_
    rintro e w2 ⟨rfl, hb2⟩
    rw [HT.out]
    (try simp only [])
    have HX := Lib.hid hb2
    have c0 := (boxed_to HI.out.r0 hb2).cell
    have f0 := (boxed_to HI.out.r0 hb2).frozen
    have c1 := (boxed_to HI.out.r1 hb2).cell
    have f1 := (boxed_to HI.out.r1 hb2).frozen
    have c2 : w2.cell? ⟨w.heap.size + 1 + 1, 0, none⟩ = some (.int .i64 0) := (boxed_to HI.out.r2 hb2).cell
    have f2 : w2.frozen? ⟨w.heap.size + 1 + 1, 0, none⟩ = false := (boxed_to HI.out.r2 hb2).frozen
    have cv2 : w2.cell? ⟨w.heap.size + 1 + 1 + 1, 0, none⟩ = some (.slice Aw ws.length cw) := (boxed_to HVW.out hb2).cell
    have cl2 : w2.cell? ⟨w.heap.size + 1 + 1 + 1 + 1, 0, none⟩ = some (.slice Al ls.length cl) := (boxed_to HVL.out hb2).cell
    clear hb2 cv cl' hl1 hl2 hcw hcl
    by_cases g : eT = 0
    · have g1 : (eT != 0) = false := by rw [g]; rfl
      by_cases g5 : T = s.data.toList
      · have g2 : (T == s.toList) = true := by rw [ByteArray.toList_eq, g5]; simp
        have HP := Lib.hid (show ParT R s.data.toList = (ws, ls, 0) by unfold ParT; rw [HRW.out]; simp only []; rw [HT.out, if_pos ⟨g, g5⟩])
        clear g5
        gi_wp2_with fail
        have hmx : Tryz.prog.follows .mixedOrders = true := by kernel_rfl
        gi_region
        gi_wp2_with fail
        refine ⟨by simp, .inl ⟨_, _, rfl, run_takeDeferred (ds := []) (show _ = some _ from ((((KeepsOthers.setCell _ _ _).trans (KeepsOthers.setCell _ _ _)).trans (KeepsOthers.setCell _ _ _)).same D _ ((HX.out.block D hDW).trans HK.out) rfl)), ?_⟩⟩
        exact pd_fin (w2 := w2.drew) rfl rfl rfl (HI.out.below.trans (HX.out.mono HI.out.below.size)).drew (boxed_drew (boxed_to HI.out.r0 HX.out)) (boxed_drew (boxed_to HI.out.r1 HX.out)) (boxed_drew (boxed_to HI.out.r2 HX.out)) ((HX.out.block D hDW).trans HK.out) (by omega) (own_below HOW.out HX.out.drew (Nat.le_refl _)) (own_below HOL.out HX.out.drew (Nat.le_refl _)) HP.out
      · have g2 : (T == s.toList) = false := by rw [ByteArray.toList_eq]; exact beq_false_of_ne g5
        have HP := Lib.hid (show ParT R s.data.toList = ([], [], 4) by unfold ParT; rw [HRW.out]; simp only []; rw [HT.out, if_neg (fun h => g5 h.2)])
        clear g5
        gi_wp2_with fail
        refine ⟨by simp, .inl ⟨_, _, rfl, run_takeDeferred ((((KeepsOthers.setCell _ _ _).trans (KeepsOthers.setCell _ _ _)).trans (KeepsOthers.setCell _ _ _)).same D _ ((HX.out.block D hDW).trans HK.out) rfl), ?_⟩⟩
        exact pd_fin rfl rfl rfl (HI.out.below.trans (HX.out.mono HI.out.below.size)) (boxed_to HI.out.r0 HX.out) (boxed_to HI.out.r1 HX.out) (boxed_to HI.out.r2 HX.out) ((HX.out.block D hDW).trans HK.out) (by omega) ⟨rfl, .inl ⟨rfl, rfl⟩⟩ ⟨rfl, .inl ⟨rfl, rfl⟩⟩ HP.out
    · have g1 : (eT != 0) = true := by simpa using g
      have HP := Lib.hid (show ParT R s.data.toList = ([], [], 4) by unfold ParT; rw [HRW.out]; simp only []; rw [HT.out, if_neg (fun h => g h.1)])
      clear g
      gi_wp2_with fail
      refine ⟨by simp, .inl ⟨_, _, rfl, run_takeDeferred ((((KeepsOthers.setCell _ _ _).trans (KeepsOthers.setCell _ _ _)).trans (KeepsOthers.setCell _ _ _)).same D _ ((HX.out.block D hDW).trans HK.out) rfl), ?_⟩⟩
      exact pd_fin rfl rfl rfl (HI.out.below.trans (HX.out.mono HI.out.below.size)) (boxed_to HI.out.r0 HX.out) (boxed_to HI.out.r1 HX.out) (boxed_to HI.out.r2 HX.out) ((HX.out.block D hDW).trans HK.out) (by omega) ⟨rfl, .inl ⟨rfl, rfl⟩⟩ ⟨rfl, .inl ⟨rfl, rfl⟩⟩ HP.out
  case stop =>
    rintro D c pre W hD hS ⟨rfl, hI⟩ hK
    have hbad : rowsT (rowsR (splitC 10 s.data.toList)) = none := by
      obtain ⟨t, ht⟩ := hS
      rw [← linesC_trim, ← ht, List.map_append]
      refine rowsT_badp ?_
      rw [show (pre.map lnB).map trimL = rowsP pre from by rw [List.map_map]; rfl]
      exact hI.bad
    rw [HRR0.out] at hbad
    have HP := Lib.hid (show ParT R s.data.toList = ([], [], 4) by unfold ParT; rw [hbad])
    gi_wp2_with fail
    refine ⟨by simp, .inl ⟨_, _, rfl, run_takeDeferred hK, ?_⟩⟩
    have hb9 := hI.below
    exact pd_end rfl rfl rfl (boxed_put _ hI.r0 hK rfl) (boxed_put _ hI.r1 hK rfl) (boxed_put _ hI.r2 hK rfl) (hb9.grown (grownBy_putObj' _ D _) hb9.size (fun k e => by cases e; omega)) ⟨rfl, .inl ⟨rfl, rfl⟩⟩ ⟨rfl, .inl ⟨rfl, rfl⟩⟩ HP.out
end Go.Proofs.YtpninpohligomaaGreatDoor
