/-
  Chapter 56: Parse of the program: a range over strings.Lines.
-/
import Derived.Test.YtpninpohligomaaGreatDoorLines
import Derived.Test.YtpninpohligomaaGreatDoorNumT
import Derived.Test.YtpninpohligomaaGreatDoorPaR56
import Derived.Test.YtpninpohligomaaGreatDoorPcS56
import Derived.Test.YtpninpohligomaaGreatDoorRnd
import Derived.RangeFuncNested
import Derived.RangeFuncCalls
import Derived.RangeFuncLeaves
set_option linter.unusedSimpArgs false
set_option linter.unusedVariables false
namespace Go.Proofs.YtpninpohligomaaGreatDoor
open Go.RowKit
attribute [local go_sem] Oper.semAt_some
set_option maxRecDepth 100000
set_option maxHeartbeats 4000000
theorem Tryz.lines_p (s : ByteArray) (w : World) : Calls Tryz.prog 33 #[.string s] w fun e w' => e = .returned (.func (.func 56) #[] #[.pointer (some ⟨w.heap.size, 0, none⟩)]) ∧ w' = w.alloc (.cells #[.string s] 9) := by
  go_enter Tryz.func33, Tryz.ntmps33
  go_wp2_with fail
  go_ret
  exact ⟨rfl, rfl⟩
theorem trimSuffix_ten (l : List UInt8) : Lib.trimSuffix l [10] = trimL l := by
  unfold Lib.trimSuffix Lib.hasSuffix trimL
  by_cases h : l.getLast? = some 10
  · have h1 : [10] <:+ l := by
      obtain ⟨a, ha⟩ := List.getLast?_eq_some_iff.1 h
      exact ⟨a, ha.symm⟩
    rw [if_pos h, if_pos (List.isSuffixOf_iff_suffix.2 h1), List.dropLast_eq_take]; rfl
  · rw [if_neg h, if_neg]
    intro e
    obtain ⟨a, ha⟩ := List.isSuffixOf_iff_suffix.1 e
    exact h (by rw [← ha]; simp)
theorem Tryz.ts10 (s : ByteArray) (w : World) (hs : s.size ≤ 9223372036854775807) :
    Calls Tryz.prog 35 #[.string s, .string ⟨#[10]⟩] w fun e w' => e = .returned (.string (baT (trimL s.data.toList))) ∧ w = w' :=
  (Tryz.ts_p s ⟨#[10]⟩ w hs).mono fun _ _ ⟨h1, h2⟩ => ⟨by rw [h1, show (⟨#[10]⟩ : ByteArray).data.toList = [10] from rfl, trimSuffix_ten]; rfl, h2⟩
theorem flat_st (l : List ByteArray) : l.flatMap stE = l.map Value.string := by
  induction l with
  | nil => rfl
  | cons x r ih => rw [List.flatMap_cons, ih]; rfl
theorem Tryz.split32 (r : List UInt8) (hr : r.length ≤ 1000) (w : World) (hw : LibW w) :
    Calls Tryz.prog 34 #[.string (baT r), .string ⟨#[32]⟩] w fun e w' => ∃ v, e = .returned v ∧ OwnL stE 1 9 w.heap.size w' v (splS 32 r) ∧ Below w.heap.size w w' := by
  obtain ⟨m, hm⟩ := hw.maxlen
  have hl := splS_len 32 (baT r)
  have hm2 := splS_map 32 (baT r)
  rw [baT_list] at hl hm2
  refine (Tryz.split_p (baT r) ⟨#[32]⟩ m w (by rw [baT_size]; omega) hm (by decide)).mono ?_
  rintro e w' ⟨rfl, rfl⟩
  rw [hm2, ← hl]
  have h3 : (splS 32 r).length ≤ 1001 := by rw [splS_length]; have := (splitC_small 32 r).2; omega
  refine ⟨_, rfl, ⟨?_, .inr ⟨w.heap.size, _, _, rfl, Nat.le_refl _, heap_alloc_new w _, Nat.le_refl _, by unfold maxLen; omega, ?_, ?_⟩⟩, cur_new w _⟩
  · rw [flat_st]; simp
  · simp
  · rw [flat_st]; simp; exact List.take_of_length_le (by simp)
theorem pc_good' {w W W5 w1 : World} {pre : List Ln} {x : Ln} {A : Option Addr} {cp g cap : Nat} {l : List Of} {z : Of} {tmp : Obj} (hs : PcS w pre W) (h5 : Below W.heap.size W W5) (hv : Boxed W (w.heap.size + 2) 22 (.slice A l.length cp)) (hown : OwnL ofE 4 32 w.heap.size W (.slice A l.length cp) l) (hrows : rowsC (pre.map fun x => trimL (lnB x)) = some l)
    (hz : fldC (splitC 32 (trimL (lnB x))) = some z) (ha : App (W5.drew.alloc tmp) w1 w.heap.size 32 4 (.slice A l.length cp) g cap l.length 1 (l.flatMap ofE) (ofE z)) (B : Nat) :
    Boxed w1 (w.heap.size + 2) 22 (.slice A l.length cp) ∧ postBox B (w.heap.size + 3) (PcS w) (fun c pre W => c = .ret ∧ PcX w pre W) (pre ++ [x]) W .normal { tmps := #[], defers := [] } (w1.setCell ⟨w.heap.size + 2, 0, none⟩ (.slice (some ⟨g, 0, none⟩) (l.length + 1) cap)) := by
  have hv5 : Boxed W5.drew (w.heap.size + 2) 22 (.slice A l.length cp) := boxed_drew (boxed_to hv h5)
  have ho5 : OwnL ofE 4 32 w.heap.size W5.drew (.slice A l.length cp) l := own_below hown h5.drew (Nat.le_refl _)
  exact ⟨(hv5.alloc tmp).kept ha.grown (hv5.not_row (by decide) ho5), pc_good hs h5 hv hown hrows hz ha.own ha.grown B⟩
theorem loadVar_off {w : World} {b : Nat} {v : Value} (h : w.cell? ⟨b, 0, none⟩ = some v) : (loadVar 22 ⟨b, 0, none⟩).run Tryz.prog w = .ok v w := by
  go_simp
theorem loadVar_err {w : World} {b : Nat} {v : Value} (h : w.cell? ⟨b, 0, none⟩ = some v) : (loadVar 25 ⟨b, 0, none⟩).run Tryz.prog w = .ok v w := by
  go_simp
theorem results_cell2 {P : Program} {fn : Func} {a b : Tmp} {t u : TypeId} (h : fn.results = #[.cell a t, .cell b u]) {tmps : Array Value} {w : World} {p q : Addr} {x y : Value}
    (ha : tmps.getD a undef = .pointer (some p)) (hb : tmps.getD b undef = .pointer (some q)) (hx : (loadVar t p).run P w = .ok x w) (hy : (loadVar u q).run P w = .ok y w) : (results fn tmps).run P w = .ok (.tuple #[x, y]) w := by
  rw [Array.getD_eq_getD_getElem?] at ha hb
  simp [results, h, asAddr, ha, hb, Sem.run_bind, hx, hy, Result.andThen]
theorem boxed_put {W : World} {D b : Nat} {t : TypeId} {v : Value} {o : Obj} (o' : Obj) (h : Boxed W b t v) (hK : W.heap[D]? = some o) (ho : o.isCells = false) : Boxed (W.putObj D o') b t v :=
  h.kept (grownBy_putObj' W D o') (fun e => by
    injection e with e
    subst e
    rw [show W.heap[b]? = _ from h] at hK
    cases hK
    cases ho)
theorem pc_end {w WF : World} {tmps : Array Value} {v : Value} {e : Int} {l : List Of} {R : List (List UInt8)} {s : List UInt8} (h2 : tmps.getD 2 undef = .pointer (some ⟨w.heap.size, 0, none⟩)) (h3 : tmps.getD 3 undef = .pointer (some ⟨w.heap.size + 1, 0, none⟩))
    (b0 : Boxed WF w.heap.size 22 v) (b1 : Boxed WF (w.heap.size + 1) 25 (.int .i64 e)) (hb : Below w.heap.size w WF) (ho : OwnL ofE 4 32 w.heap.size WF v l) (hP : ParC R s = (l, e)) :
    LeavesInM Fence.wide 5 Tryz.prog Tryz.f11 tmps (fun e w' => ∃ v, e = .returned (.tuple #[v, .int .i64 (ParC R s).2]) ∧ OwnL ofE 4 32 w.heap.size w' v (ParC R s).1 ∧ Below w.heap.size w w') [] .returning WF :=
  ⟨_, results_cell2 rfl h2 h3 (loadVar_off b0.cell) (loadVar_err b1.cell), v, by rw [hP], by rw [hP]; exact ho, hb⟩
theorem pc_fin {w w2 : World} {D : Nat} {tmps : Array Value} {v u u' : Value} {e : Int} {l : List Of} {R : List (List UInt8)} {s : List UInt8} (h2 : tmps.getD 2 undef = .pointer (some ⟨w.heap.size, 0, none⟩)) (h3 : tmps.getD 3 undef = .pointer (some ⟨w.heap.size + 1, 0, none⟩))
    (hb : Below w.heap.size w w2) (b0 : Boxed w2 w.heap.size 22 u) (b1 : Boxed w2 (w.heap.size + 1) 25 u') (hK : w2.heap[D]? = some (.deferred (some []))) (hD : w.heap.size ≤ D) (ho : OwnL ofE 4 32 w.heap.size w2 v l) (hP : ParC R s = (l, e)) :
    LeavesInM Fence.wide 5 Tryz.prog Tryz.f11 tmps (fun e w' => ∃ v, e = .returned (.tuple #[v, .int .i64 (ParC R s).2]) ∧ OwnL ofE 4 32 w.heap.size w' v (ParC R s).1 ∧ Below w.heap.size w w') [] .returning
      (((w2.setCell ⟨w.heap.size, 0, none⟩ v).setCell ⟨w.heap.size + 1, 0, none⟩ (.int .i64 e)).putObj D (.deferred none)) := by
  have hb6 := (hb.setCell (p := ⟨w.heap.size, 0, none⟩) (Nat.le_refl _) v).setCell (p := ⟨w.heap.size + 1, 0, none⟩) (Nat.le_succ _) (.int .i64 e)
  have hK6 := ((KeepsOthers.setCell w2 ⟨w.heap.size, 0, none⟩ v).trans (KeepsOthers.setCell _ ⟨w.heap.size + 1, 0, none⟩ (.int .i64 e))).same D _ hK rfl
  have k1 : Boxed (w2.setCell ⟨w.heap.size, 0, none⟩ v) (w.heap.size + 1) 25 u' := b1.other (by omega) _
  have o1 : OwnL ofE 4 32 w.heap.size (w2.setCell ⟨w.heap.size, 0, none⟩ v) v l := World.ownsRow.kept ho (grownBy_setCell' w2 _ _) (.inr (b0.not_row (by decide) ho).symm)
  have o2 : OwnL ofE 4 32 w.heap.size ((w2.setCell ⟨w.heap.size, 0, none⟩ v).setCell ⟨w.heap.size + 1, 0, none⟩ (.int .i64 e)) v l := World.ownsRow.kept o1 (grownBy_setCell' _ _ _) (.inr (k1.not_row (by decide) o1).symm)
  exact pc_end h2 h3 (boxed_put _ ((b0.set v).other (by omega) _) hK6 rfl) (boxed_put _ (k1.set _) hK6 rfl) (hb6.grown (grownBy_putObj' _ D _) hb6.size (fun k e => by cases e; exact hD)) (ownsRow_putObj o2 _ hK6 rfl) hP
theorem parse_p (s : ByteArray) (w : World) (hs : s.size ≤ 1000) (hW : LibW w) :
    Calls Tryz.prog 11 #[.string s] w fun e w' => ∃ v, e = .returned (.tuple #[v, .int .i64 (ParC (rowsR (splitC 10 s.data.toList)) s.data.toList).2]) ∧ OwnL ofE 4 32 w.heap.size w' v (ParC (rowsR (splitC 10 s.data.toList)) s.data.toList).1 ∧ Below w.heap.size w w' := by
  have HLW := Lib.hid hW
  obtain ⟨R, hR⟩ : ∃ R, rowsR (splitC 10 s.data.toList) = R := ⟨_, rfl⟩
  rw [hR]
  have HRR := Lib.hid hR
  clear hW hR
  refine (callsIn_wide (n := 5)).1 ?_
  refine callsIn_of_wp_marks Tryz.func11 rfl trivial ?_ rfl
  simp only [Tryz.ntmps11, List.size_toArray, List.length_cons, List.length_nil, Nat.reduceAdd, Nat.reduceSub, Array.replicate_succ, Array.replicate_zero, List.push_toArray, List.append_toArray, List.nil_append, List.cons_append]
  gi_wp2_with (refine ⟨trivial, ?_⟩; gi_at_call 33; refine (callsIn_wide.2 (Tryz.lines_p s _)).mono ?_; rintro e w' ⟨rfl, rfl⟩)
  obtain ⟨W0, hW0⟩ : ∃ W0, ((((w.alloc (.cells #[.slice none 0 0] 22)).alloc (.cells #[.int .i64 0] 25)).alloc (.cells #[.slice none 0 0] 22)).alloc (.cells #[.string s] 9)) = W0 := ⟨_, rfl⟩
  have hsz0 : W0.heap.size = w.heap.size + 4 := by rw [← hW0]; simp
  have b0 : Boxed W0 w.heap.size 22 (.slice none 0 0) := by rw [← hW0]; exact (((Boxed.new w _ _).alloc _).alloc _).alloc _
  have b1 : Boxed W0 (w.heap.size + 1) 25 (.int .i64 0) := by
    rw [← hW0]
    have := Boxed.new (w.alloc (.cells #[.slice none 0 0] 22)) 25 (.int .i64 0)
    rw [World.size_alloc] at this
    exact (this.alloc _).alloc _
  have b2 : Boxed W0 (w.heap.size + 2) 22 (.slice none 0 0) := by
    rw [← hW0]
    have := Boxed.new ((w.alloc (.cells #[.slice none 0 0] 22)).alloc (.cells #[.int .i64 0] 25)) 22 (.slice none 0 0)
    rw [World.size_alloc, World.size_alloc] at this
    exact this.alloc _
  have b3 : Boxed W0 (w.heap.size + 3) 9 (.string s) := by
    rw [← hW0]
    have := Boxed.new (((w.alloc (.cells #[.slice none 0 0] 22)).alloc (.cells #[.int .i64 0] 25)).alloc (.cells #[.slice none 0 0] 22)) 9 (.string s)
    rw [World.size_alloc, World.size_alloc, World.size_alloc] at this
    exact this
  have hbel : Below w.heap.size w W0 := by rw [← hW0]; exact (((cur_new w _).alloc (by simp) _).alloc (by simp; omega) _).alloc (by simp; omega) _
  rw [hW0]
  have h0 : PcS w [] W0 := ⟨hbel, b0, b1, ⟨_, b3⟩, _, [], b2, ⟨rfl, .inl ⟨rfl, rfl⟩⟩, rfl⟩
  have HB3 := Lib.hid b3
  have H0 := Lib.hid h0
  clear b0 b1 b2 b3 hbel h0 hW0
  refine wpIn_rangeFunc_box rfl (by omega) (gf := 56) (lb := #[.pointer (some ⟨w.heap.size + 3, 0, none⟩)]) rfl trivial (enters_of Tryz.func56 (by kernel_rfl) rfl) (Tryz.lines_stops _ (by omega) (w.heap.size + 3) s hs) HB3.out (fun _ => rfl)
    (PcS w) (fun c pre W => c = .ret ∧ PcX w pre W) (PcS.from w (by omega)) (fun c s' X Y row h hg hr => ⟨h.1, PcX.from w (by omega) s' X Y row h.2 hg hr⟩) (fun s' W u h => PcS.set s' W u h) (fun c s' W u h => ⟨h.1, PcX.set s' W u h.2⟩) H0.out
    (fun x => { tmps := #[.string s, undef, .pointer (some ⟨w.heap.size, 0, none⟩), .pointer (some ⟨w.heap.size + 1, 0, none⟩), .pointer (some ⟨w.heap.size + 2, 0, none⟩), .string x.1, undef, undef, undef, undef, undef, undef, undef, undef, undef, .string s, .func (.func 56) #[] #[.pointer (some ⟨w.heap.size + 3, 0, none⟩)], .string x.1, undef, undef, undef, undef, undef, undef, undef, undef, undef, undef, undef, undef, undef, undef, undef, undef, undef, undef, undef, undef, undef, undef, undef, undef, undef, undef, undef, undef, undef, undef, undef, undef, undef, undef, undef, undef, undef, undef, undef, undef, undef, undef, undef, undef, undef, undef, undef, undef, undef, undef, undef, undef, undef, undef, undef, undef, undef, undef, undef, undef], defers := [] }) ?assign ?body ?done ?stop
  case assign =>
    intro l x W K hK
    gi_wp2
    exact hK
  case body =>
    rintro l pre x W hsz hI hlt
    have hHS := hI
    obtain ⟨v, out, hv, how, hrw⟩ := hI.out
    obtain ⟨r, hr⟩ : ∃ r, trimL (lnB x) = r := ⟨_, rfl⟩
    have hrl : r.length ≤ 1000 := by
      have h1 := x.2
      have h2 : (lnB x).length = x.1.size := by unfold lnB; simp
      rw [← hr]; unfold trimL; split
      · rw [List.length_dropLast]; omega
      · omega
    obtain ⟨A, cp, rfl, hrd, hA⟩ := OwnL.rd ofE_len how
    have HS := Lib.hid hI
    have HV := Lib.hid hv
    have HOW := Lib.hid how
    have HRW := Lib.hid hrw
    have HL := Lib.hid (HLW.out.to hI.below)
    have hN := (linesC_small _ s.data.toList (Nat.le_refl _)).2
    have hsl : s.data.toList.length = s.size := by simp
    have hol := (rowsC_size (n := 1000) hrw (fun q hq => by
      obtain ⟨y, _, rfl⟩ := List.mem_map.1 hq
      have h1 := y.2
      have h2 : (lnB y).length = y.1.size := by unfold lnB; simp
      unfold trimL; split
      · rw [List.length_dropLast]; omega
      · omega)).2
    rw [List.length_map] at hol
    have HOL := Lib.hid (show out.length ≤ 1000 by omega)
    have HR := Lib.hid hr
    have hx1 : x.1.size ≤ 9223372036854775807 := by have := x.2; omega
    have hb0 := hI.below.size
    have c0 := hI.r0.cell
    have f0 := hI.r0.frozen
    have c1 := hI.r1.cell
    have f1 := hI.r1.frozen
    have d1 : 1 ≤ (5 : Nat) := by omega
    clear hI hv how hrw hHS hrd hA hN hsl hol hlt
    gi_wp2_with (refine ⟨trivial, ?_⟩; gi_at_call 35; refine (inR (Tryz.ts10 x.1 _ hx1)).mono ?_; rintro e w' ⟨rfl, rfl⟩)
    refine ⟨trivial, ?_⟩
    rw [show trimL x.val.data.toList = r from HR.out]
    refine (inR (Tryz.split32 r hrl _ HL.out)).mono ?_
    rintro e w2 ⟨v2, rfl, hown2, hb2⟩
    obtain ⟨A2, c2, rfl, hrd2, ha2⟩ := OwnL.rd stE_len hown2
    have hcap2 := own_cap hown2
    have HX2 := Lib.hid hb2
    have HL2 := Lib.hid (HL.out.to (by exact hb2))
    have hlen2 := splS_length 32 r
    have hbs2 := hb2.size
    have c02 := (boxed_to HS.out.r0 hb2).cell
    have f02 := (boxed_to HS.out.r0 hb2).frozen
    have c12 := (boxed_to HS.out.r1 hb2).cell
    have f12 := (boxed_to HS.out.r1 hb2).frozen
    obtain ⟨m, hm⟩ : ∃ m, (splS 32 r).length = m := ⟨_, rfl⟩
    rw [hm] at hcap2 hlen2 ⊢
    clear hown2 hb2 c0 f0 c1 f1
    by_cases hm4 : m = 4
    · subst hm4
      obtain ⟨a, b', c', d, hsp⟩ : ∃ a b c d, splitC 32 r = [a, b, c, d] := by
        match hq : splitC 32 r, hlen2 with
        | [a, b, c, d], _ => exact ⟨a, b, c, d, rfl⟩
      have hss : splS 32 r = [baT a, baT b', baT c', baT d] := by unfold splS; rw [hsp]; rfl
      rw [hss] at hrd2
      obtain ⟨x1, y1, hv1⟩ : ∃ x y, numP a 1 1099511627776 = (x, y) := ⟨_, _, rfl⟩
      obtain ⟨x2, y2, hv2⟩ : ∃ x y, numP c' 0 1000000 = (x, y) := ⟨_, _, rfl⟩
      obtain ⟨x3, y3, hv3⟩ : ∃ x y, numP d 1 8 = (x, y) := ⟨_, _, rfl⟩
      have hf : fldC (splitC 32 (trimL (lnB x))) = if y1 = 0 ∧ y2 = 0 ∧ y3 = 0 then some ⟨x1, baT b', x2, x3⟩ else none := by
        rw [HR.out, hsp]
        unfold fldC
        simp only [hv1, hv2, hv3]
      have hszp := (splitC_small 32 r).1
      rw [hsp] at hszp
      have s1 : (baT a).size ≤ 281474976710656 := by have := hszp a (by simp); rw [baT_size]; omega
      have s2 : (baT c').size ≤ 281474976710656 := by have := hszp c' (by simp); rw [baT_size]; omega
      have s3 : (baT d).size ≤ 281474976710656 := by have := hszp d (by simp); rw [baT_size]; omega
      obtain ⟨b2, off2, rfl, hbb2, q0, q1, q2, q3⟩ := four_cells hrd2
      have HFF := Lib.hid hf
      have HV1 := Lib.hid hv1
      have HV2 := Lib.hid hv2
      have HV3 := Lib.hid hv3
      have HSS := Lib.hid (And.intro s1 (And.intro s2 s3))
      clear hrd2 ha2 hss hsp hszp hlen2 hf hv1 hv2 hv3 s1 s2 s3
      gi_wp2_with fail
      refine ⟨trivial, ?_⟩
      refine (inR (number_t (baT a) HSS.out.1 1 1099511627776 (by decide) (by decide) _ HL2.out)).mono ?_
      rintro e w3 ⟨rfl, hb3⟩
      rw [baT_list, HV1.out]
      have q1' := (hb3.cell (p := ⟨b2, off2 + 1, none⟩) hbb2).trans q1
      have q2' := (hb3.cell (p := ⟨b2, off2 + 2, none⟩) hbb2).trans q2
      have q3' := (hb3.cell (p := ⟨b2, off2 + 3, none⟩) hbb2).trans q3
      have hw3 := hb3.size
      have HL3 := Lib.hid (HL2.out.to hb3)
      have HX3 := Lib.hid (cur_step1 HX2.out hb3)
      clear q0 q1 q2 q3 c02 f02 c12 f12 hb3
      gi_wp2_with fail
      refine ⟨trivial, ?_⟩
      refine (inR (number_t (baT c') HSS.out.2.1 0 1000000 (by decide) (by decide) _ HL3.out)).mono ?_
      rintro e w4 ⟨rfl, hb4⟩
      rw [baT_list, HV2.out]
      have hl4 : b2 < w3.heap.size := by omega
      have q1 := (hb4.cell (p := ⟨b2, off2 + 1, none⟩) hl4).trans q1'
      have q3 := (hb4.cell (p := ⟨b2, off2 + 3, none⟩) hl4).trans q3'
      have hw4 := hb4.size
      have HL4 := Lib.hid (HL3.out.to hb4)
      have HX4 := Lib.hid (cur_step1 HX3.out hb4)
      clear q1' q2' q3' hb4
      gi_wp2_with fail
      refine ⟨trivial, ?_⟩
      refine (inR (number_t (baT d) HSS.out.2.2 1 8 (by decide) (by decide) _ HL4.out)).mono ?_
      rintro e w5 ⟨rfl, hb5⟩
      rw [baT_list, HV3.out]
      have hl5 : b2 < w4.heap.size := by omega
      have q1' := (hb5.cell (p := ⟨b2, off2 + 1, none⟩) hl5).trans q1
      have hw5 := hb5.size
      have HX5 := Lib.hid (cur_step1 HX4.out hb5)
      have c05 := (boxed_to HS.out.r0 HX5.out).cell
      have f05 := (boxed_to HS.out.r0 HX5.out).frozen
      have c15 := (boxed_to HS.out.r1 HX5.out).cell
      have f15 := (boxed_to HS.out.r1 HX5.out).frozen
      clear q1 q3 hb5
      by_cases hz : y1 = 0 ∧ y2 = 0 ∧ y3 = 0
      · have HF := Lib.hid (show fldC (splitC 32 (trimL (lnB x))) = some ⟨x1, baT b', x2, x3⟩ by rw [HFF.out, if_pos hz])
        have g1 : (y1 != 0) = false := by rw [hz.1]; rfl
        have g2 : (y2 != 0) = false := by rw [hz.2.1]; rfl
        have g3 : (y3 != 0) = false := by rw [hz.2.2]; rfl
        clear hz c05 f05 c15 f15
        have cv5 := (boxed_to HV.out HX5.out).cell
        have HO5 := Lib.hid (own_below HOW.out HX5.out (Nat.le_refl _))
        have hsz5 : w.heap.size + 2 < w5.heap.size := (boxed_to HV.out HX5.out).lt
        gi_wp2_with fail
        refine wpIn_region_rnd (by kernel_rfl) (by kernel_rfl) ?_
        refine wpAnyIn_take (i := 1) (v := ?_) rfl rfl (by kernel_rfl) (by kernel_rfl) (by kernel_rfl) (fun _ _ _ h => h) ⟨Or.inl ⟨by rfl, ?_⟩, fun _ => rfl⟩ ?_
        rotate_left
        · intro w
          go_simp
          try with_reducible rfl
        refine wpAnyIn_take (i := 2) (v := ?_) rfl rfl (by kernel_rfl) (by kernel_rfl) (by kernel_rfl) (fun _ _ _ h => h) ⟨Or.inl ⟨by rfl, ?_⟩, fun _ => rfl⟩ ?_
        rotate_left
        · intro w
          go_simp
          try with_reducible rfl
        refine wpAnyIn_take (i := 5) (v := ?_) rfl rfl (by kernel_rfl) (by kernel_rfl) (by kernel_rfl) (fun _ _ _ h => h) ⟨Or.inl ⟨by rfl, ?_⟩, fun _ => rfl⟩ ?_
        rotate_left
        · intro w
          go_simp
          try with_reducible rfl
        refine wpAnyIn_take (i := 6) (v := ?_) rfl rfl (by kernel_rfl) (by kernel_rfl) (by kernel_rfl) (fun _ _ _ h => h) ⟨Or.inl ⟨by rfl, ?_⟩, fun _ => rfl⟩ ?_
        rotate_left
        · intro w
          go_simp
          try with_reducible rfl
        refine wpAnyIn_take (i := 3) (v := ?_) rfl rfl (by kernel_rfl) (by kernel_rfl) (by kernel_rfl) (fun _ _ _ h => h) ⟨Or.inl ⟨by rfl, ?_⟩, fun _ => rfl⟩ ?_
        rotate_left
        · intro w
          go_simp
          try with_reducible rfl
        refine wpAnyIn_ready (rs := [0, 4]) (by kernel_rfl) (by simp) ?_
        refine AllReadyIn.cons rfl (fun K hK => ?_) (AllReadyIn.cons rfl (fun K hK => ?_) AllReadyIn.nil)
        · go_simp
          refine hK _ _ ?_
          clear hK K
          refine wpAnyIn_ready (rs := [4]) (by kernel_rfl) (by simp) ?_
          refine AllReadyIn.cons rfl (fun K hK => ?_) AllReadyIn.nil
          go_simp
          refine hK _ _ ?_
          clear hK K
          refine wpAnyIn_take (i := 7) (v := ?_) rfl rfl (by kernel_rfl) (by kernel_rfl) (by kernel_rfl) (fun _ _ _ h => h) ⟨Or.inl ⟨by rfl, ?_⟩, fun _ => rfl⟩ ?_
          rotate_left
          · intro w
            go_simp
            try with_reducible rfl
          refine wpAnyIn_ready (rs := [8]) (by kernel_rfl) (by simp) ?_
          refine AllReadyIn.cons rfl (fun K hK => ?_) AllReadyIn.nil
          go_simp
          refine hK _ _ ?_
          clear hK K
          refine wpAnyIn_ready (rs := [9]) (by kernel_rfl) (by simp) ?_
          refine AllReadyIn.cons rfl (fun K hK => ?_) AllReadyIn.nil
          refine stepIn_app1 Tryz.ofElemP _ (by rfl) (.tmp 55) (.tmp 63) (by rfl) w.heap.size A cp out (by rfl) ?own ⟨x1, baT b', x2, x3⟩ w5.heap.size 1 (by rfl) ?hp ?h3 ?h4 ?sz ?_
          case own => exact own_below HO5.out (cur_new _ _).drew (Nat.le_refl _)
          case hp => exact heap_alloc_new w5 _
          case h3 => (have := HOL.out; unfold maxLen; omega)
          case h4 => (have := HOL.out; omega)
          case sz => (first | omega | (simp; omega))
          intro g2 cap w6 ha
          obtain ⟨hc6, HZ⟩ := pc_good' HS.out HX5.out HV.out HOW.out HRW.out HF.out ha W0.heap.size
          have HZ := Lib.hid HZ
          have cc6 := hc6.cell
          have ff6 := hc6.frozen
          clear ha hc6
          refine hK _ _ ?_
          clear hK K
          go_simp
          refine wpAnyIn_ready (rs := [10]) (by kernel_rfl) (by simp) ?_
          refine AllReadyIn.cons rfl (fun K hK => ?_) AllReadyIn.nil
          go_simp
          refine hK _ _ ?_
          clear hK K
          refine wpAnyIn_done (by kernel_rfl) ?_ _
          gi_wp2
          exact HZ.out
        · go_simp
          refine hK _ _ ?_
          clear hK K
          refine wpAnyIn_take (i := 7) (v := ?_) rfl rfl (by kernel_rfl) (by kernel_rfl) (by kernel_rfl) (fun _ _ _ h => h) ⟨Or.inl ⟨by rfl, ?_⟩, fun _ => rfl⟩ ?_
          rotate_left
          · intro w
            go_simp
            try with_reducible rfl
          refine wpAnyIn_ready (rs := [0, 8]) (by kernel_rfl) (by simp) ?_
          refine AllReadyIn.cons rfl (fun K hK => ?_) (AllReadyIn.cons rfl (fun K hK => ?_) AllReadyIn.nil)
          · go_simp
            refine hK _ _ ?_
            clear hK K
            refine wpAnyIn_ready (rs := [8]) (by kernel_rfl) (by simp) ?_
            refine AllReadyIn.cons rfl (fun K hK => ?_) AllReadyIn.nil
            go_simp
            refine hK _ _ ?_
            clear hK K
            refine wpAnyIn_ready (rs := [9]) (by kernel_rfl) (by simp) ?_
            refine AllReadyIn.cons rfl (fun K hK => ?_) AllReadyIn.nil
            refine stepIn_app1 Tryz.ofElemP _ (by rfl) (.tmp 55) (.tmp 63) (by rfl) w.heap.size A cp out (by rfl) ?own ⟨x1, baT b', x2, x3⟩ w5.heap.size 1 (by rfl) ?hp ?h3 ?h4 ?sz ?_
            case own => exact own_below HO5.out (cur_new _ _).drew (Nat.le_refl _)
            case hp => exact heap_alloc_new w5 _
            case h3 => (have := HOL.out; unfold maxLen; omega)
            case h4 => (have := HOL.out; omega)
            case sz => (first | omega | (simp; omega))
            intro g2 cap w6 ha
            obtain ⟨hc6, HZ⟩ := pc_good' HS.out HX5.out HV.out HOW.out HRW.out HF.out ha W0.heap.size
            have HZ := Lib.hid HZ
            have cc6 := hc6.cell
            have ff6 := hc6.frozen
            clear ha hc6
            refine hK _ _ ?_
            clear hK K
            go_simp
            refine wpAnyIn_ready (rs := [10]) (by kernel_rfl) (by simp) ?_
            refine AllReadyIn.cons rfl (fun K hK => ?_) AllReadyIn.nil
            go_simp
            refine hK _ _ ?_
            clear hK K
            refine wpAnyIn_done (by kernel_rfl) ?_ _
            gi_wp2
            exact HZ.out
          · go_simp
            refine hK _ _ ?_
            clear hK K
            refine wpAnyIn_ready (rs := [0]) (by kernel_rfl) (by simp) ?_
            refine AllReadyIn.cons rfl (fun K hK => ?_) AllReadyIn.nil
            go_simp
            refine hK _ _ ?_
            clear hK K
            refine wpAnyIn_ready (rs := [9]) (by kernel_rfl) (by simp) ?_
            refine AllReadyIn.cons rfl (fun K hK => ?_) AllReadyIn.nil
            refine stepIn_app1 Tryz.ofElemP _ (by rfl) (.tmp 55) (.tmp 63) (by rfl) w.heap.size A cp out (by rfl) ?own ⟨x1, baT b', x2, x3⟩ w5.heap.size 1 (by rfl) ?hp ?h3 ?h4 ?sz ?_
            case own => exact own_below HO5.out (cur_new _ _).drew (Nat.le_refl _)
            case hp => exact heap_alloc_new w5 _
            case h3 => (have := HOL.out; unfold maxLen; omega)
            case h4 => (have := HOL.out; omega)
            case sz => (first | omega | (simp; omega))
            intro g2 cap w6 ha
            obtain ⟨hc6, HZ⟩ := pc_good' HS.out HX5.out HV.out HOW.out HRW.out HF.out ha W0.heap.size
            have HZ := Lib.hid HZ
            have cc6 := hc6.cell
            have ff6 := hc6.frozen
            clear ha hc6
            refine hK _ _ ?_
            clear hK K
            go_simp
            refine wpAnyIn_ready (rs := [10]) (by kernel_rfl) (by simp) ?_
            refine AllReadyIn.cons rfl (fun K hK => ?_) AllReadyIn.nil
            go_simp
            refine hK _ _ ?_
            clear hK K
            refine wpAnyIn_done (by kernel_rfl) ?_ _
            gi_wp2
            exact HZ.out
      · have HF := Lib.hid (show fldC (splitC 32 (trimL (lnB x))) = none by rw [HFF.out, if_neg hz])
        have hcs : (y1 != 0) = true ∨ ((y1 != 0) = false ∧ (y2 != 0) = true) ∨ ((y1 != 0) = false ∧ (y2 != 0) = false ∧ (y3 != 0) = true) := by
          simp only [bne_iff_ne, ne_eq, bne_eq_false_iff_eq]
          omega
        clear hz
        rcases hcs with g1 | ⟨g1, g2⟩ | ⟨g1, g2, g3⟩ <;>
        · gi_wp2_with fail
          exact ⟨(pc_bad HS.out HX5.out HF.out _).1, rfl, (pc_bad HS.out HX5.out HF.out W0.heap.size).2⟩
    · have e1 : ((m : Int) != 4) = true := by simp; omega
      have HF := Lib.hid (show fldC (splitC 32 (trimL (lnB x))) = none by
        rw [HR.out]
        unfold fldC
        split
        · next a b c d hs => rw [hs] at hlen2; simp at hlen2; omega
        · rfl)
      have HXE := HX2
      clear hrd2 ha2 hlen2 hcap2
      gi_wp2
      exact ⟨(pc_bad HS.out HX2.out HF.out _).1, rfl, (pc_bad HS.out HX2.out HF.out W0.heap.size).2⟩
  case done =>
    rintro D xs W hD hS hI hK
    obtain ⟨v, out, hv, how, hrw⟩ := hI.out
    have hxs : (xs.map fun x => trimL (lnB x)) = rowsR (splitC 10 s.data.toList) := by
      rw [← linesC_trim, ← hS, List.map_map]; rfl
    rw [hxs] at hrw
    have hsl : s.data.toList.length = s.size := by simp
    obtain ⟨hsm, hlen⟩ := linesC_small _ s.data.toList (Nat.le_refl _)
    have hrs : ∀ r ∈ rowsR (splitC 10 s.data.toList), r.length ≤ 1000 := by
      rw [← linesC_trim]
      intro r hr
      obtain ⟨y, hy, rfl⟩ := List.mem_map.1 hr
      have h2 := hsm y hy
      unfold trimL; split
      · rw [List.length_dropLast]; omega
      · omega
    obtain ⟨hz1, hz2⟩ := rowsC_size (n := 1000) hrw hrs
    rw [← hxs, List.length_map] at hz2
    have hle9 : out.length ≤ 2000 := by
      have h3 : xs.length = (linesC s.data.toList).length := by rw [← hS, List.length_map]
      omega
    obtain ⟨A, cp, rfl, hrd, _⟩ := OwnL.rd ofE_len how
    rw [HRR.out] at hrw
    obtain ⟨T, eT, hT⟩ : ∃ T e, TxtC out = (T, e) := ⟨_, _, rfl⟩
    have HT := Lib.hid hT
    have HRW := Lib.hid hrw
    have HZ1 := Lib.hid hz1
    have HRD := Lib.hid hrd
    have HI := Lib.hid hI
    have HL := Lib.hid (HLW.out.to hI.below)
    have HV := Lib.hid hv
    have HO := Lib.hid how
    have HK := Lib.hid hK
    have cv : W.cell? ⟨w.heap.size + 1 + 1, 0, none⟩ = some (.slice A out.length cp) := hv.cell
    have hDW := (Array.getElem?_eq_some_iff.1 hK).1
    clear hS hI hK hv how hrw hxs hsl hsm hlen hrs hz1 hz2 hrd hT
    gi_wp2_with fail
    refine ⟨trivial, ?_⟩
    refine (callsIn_wide.2 (text_p A cp out _ hle9 HRD.out (fun z hz => by have := HZ1.out z hz; omega) HL.out)).mono ?_
    rintro e w2 ⟨rfl, hb2⟩
    rw [HT.out]
    (try simp only [])
    have HX := Lib.hid hb2
    have c0 := (boxed_to HI.out.r0 hb2).cell
    have f0 := (boxed_to HI.out.r0 hb2).frozen
    have c1 := (boxed_to HI.out.r1 hb2).cell
    have f1 := (boxed_to HI.out.r1 hb2).frozen
    have cv2 : w2.cell? ⟨w.heap.size + 1 + 1, 0, none⟩ = some (.slice A out.length cp) := (boxed_to HV.out hb2).cell
    clear hb2 hle9 cv
    by_cases g : eT = 0
    · have g1 : (eT != 0) = false := by rw [g]; rfl
      by_cases g5 : T = s.data.toList
      · have g2 : (T == s.toList) = true := by rw [ByteArray.toList_eq, g5]; simp
        have HP := Lib.hid (show ParC R s.data.toList = (out, 0) by unfold ParC; rw [HRW.out]; simp only []; rw [HT.out, if_pos ⟨g, g5⟩])
        clear g5
        gi_wp2_with fail
        refine ⟨by simp, .inl ⟨_, _, rfl, run_takeDeferred (((KeepsOthers.setCell _ _ _).trans (KeepsOthers.setCell _ _ _)).same D _ ((HX.out.block D hDW).trans HK.out) rfl), ?_⟩⟩
        exact pc_fin rfl rfl (HI.out.below.trans (HX.out.mono HI.out.below.size)) (boxed_to HI.out.r0 HX.out) (boxed_to HI.out.r1 HX.out) ((HX.out.block D hDW).trans HK.out) (by omega) (own_below HO.out HX.out (Nat.le_refl _)) HP.out
      · have g2 : (T == s.toList) = false := by rw [ByteArray.toList_eq]; exact beq_false_of_ne g5
        have HP := Lib.hid (show ParC R s.data.toList = ([], 4) by unfold ParC; rw [HRW.out]; simp only []; rw [HT.out, if_neg (fun h => g5 h.2)])
        clear g5
        gi_wp2_with fail
        refine ⟨by simp, .inl ⟨_, _, rfl, run_takeDeferred (((KeepsOthers.setCell _ _ _).trans (KeepsOthers.setCell _ _ _)).same D _ ((HX.out.block D hDW).trans HK.out) rfl), ?_⟩⟩
        exact pc_fin rfl rfl (HI.out.below.trans (HX.out.mono HI.out.below.size)) (boxed_to HI.out.r0 HX.out) (boxed_to HI.out.r1 HX.out) ((HX.out.block D hDW).trans HK.out) (by omega) ⟨rfl, .inl ⟨rfl, rfl⟩⟩ HP.out
    · have g1 : (eT != 0) = true := by simpa using g
      have HP := Lib.hid (show ParC R s.data.toList = ([], 4) by unfold ParC; rw [HRW.out]; simp only []; rw [HT.out, if_neg (fun h => g h.1)])
      clear g
      gi_wp2_with fail
      refine ⟨by simp, .inl ⟨_, _, rfl, run_takeDeferred (((KeepsOthers.setCell _ _ _).trans (KeepsOthers.setCell _ _ _)).same D _ ((HX.out.block D hDW).trans HK.out) rfl), ?_⟩⟩
      exact pc_fin rfl rfl (HI.out.below.trans (HX.out.mono HI.out.below.size)) (boxed_to HI.out.r0 HX.out) (boxed_to HI.out.r1 HX.out) ((HX.out.block D hDW).trans HK.out) (by omega) ⟨rfl, .inl ⟨rfl, rfl⟩⟩ HP.out
  case stop =>
    rintro D c pre W hD hS ⟨rfl, hI⟩ hK
    have hbad : rowsC (rowsR (splitC 10 s.data.toList)) = none := by
      obtain ⟨t, ht⟩ := hS
      rw [← linesC_trim, ← ht, List.map_append, rowsC_append]
      rw [show (pre.map lnB).map trimL = pre.map fun x => trimL (lnB x) from by rw [List.map_map]; rfl, hI.bad]
    have HP := Lib.hid (show ParC (rowsR (splitC 10 s.data.toList)) s.data.toList = ([], 4) by unfold ParC; rw [hbad])
    rw [HRR.out] at HP
    gi_wp2_with fail
    refine ⟨by simp, .inl ⟨_, _, rfl, run_takeDeferred hK, ?_⟩⟩
    have hb9 := hI.below
    exact pc_end rfl rfl (boxed_put _ hI.r0 hK rfl) (boxed_put _ hI.r1 hK rfl) (hb9.grown (grownBy_putObj' _ D _) hb9.size (fun k e => by cases e; omega)) ⟨rfl, .inl ⟨rfl, rfl⟩⟩ HP.out
end Go.Proofs.YtpninpohligomaaGreatDoor
