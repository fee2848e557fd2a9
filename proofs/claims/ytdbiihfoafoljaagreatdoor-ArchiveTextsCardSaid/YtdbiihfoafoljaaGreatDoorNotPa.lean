/-
  Chapter 7: Parse of the program.
-/
import Derived.Test.YtdbiihfoafoljaaGreatDoorRdW
import Derived.Test.YtdbiihfoafoljaaGreatDoorStr
set_option linter.unusedSimpArgs false
set_option linter.unusedVariables false
namespace Go.Proofs.YtdbiihfoafoljaaGreatDoor
open Go.RowKit
set_option maxRecDepth 100000
set_option maxHeartbeats 4000000
theorem guessP_how (l : List UInt8) : 0 ≤ (guessP l).how ∧ (guessP l).how ≤ 10 := by
  have hx : ∀ c, 0 ≤ idxL c ∧ idxL c ≤ 10 := fun c => by
    unfold idxL
    split
    · next i h =>
      have hi : i < lettersL.length := by
        rw [List.idxOf?, List.findIdx?_eq_some_iff_getElem] at h
        exact h.1
      have : lettersL.length = 11 := rfl
      omega
    · decide
  unfold guessP
  dsimp only
  unfold p7
  split
  · exact ⟨Int.le_refl 0, show (0 : Int) ≤ 10 by decide⟩
  split
  · exact ⟨Int.le_refl 0, show (0 : Int) ≤ 10 by decide⟩
  · dsimp only
    split
    · exact hx _
    · exact hx _
theorem p2_src (t : Int) (l : List UInt8) : 0 ≤ (p2 t l).1 := by
  unfold p2
  by_cases h1 : hasC l 98 = true
  · rw [if_pos h1]; exact (show (0 : Int) ≤ 2 by decide)
  rw [if_neg h1]
  by_cases h2 : hasC l 108 = true
  · rw [if_pos h2]; exact (show (0 : Int) ≤ 3 by decide)
  rw [if_neg h2]
  by_cases ht : t = 2
  · rw [if_pos ht]
    by_cases h3 : hasC l 111 = true
    · rw [if_pos h3]; exact (show (0 : Int) ≤ 1 by decide)
    · rw [if_neg h3]; exact Int.le_refl 0
  · rw [if_neg ht]
    by_cases h3 : hasC l 46 = true
    · rw [if_pos h3]; exact Int.le_refl 0
    · rw [if_neg h3]; exact (show (0 : Int) ≤ 1 by decide)
theorem guessP_src (l : List UInt8) : 0 ≤ (guessP l).src := p2_src _ _
theorem ba_beq (a b : ByteArray) : (a == b) = (a.data == b.data) := by cases a; cases b; rfl
theorem ba_self (a : ByteArray) : (a != a) = false := by simp [bne, ba_beq]
theorem ba_ne {a b : ByteArray} (h : a ≠ b) : (a != b) = true := by
  simp only [bne, ba_beq, Bool.not_eq_true', beq_eq_false_iff_ne, ne_eq]
  intro hd
  exact h (ByteArray.ext hd)
theorem api_info : (Tryz.prog.info? 36).map (·.size) = some 12 := by kernel_rfl
theorem sA_to (l : List UInt8) : (sA l).toList = l := by
  rw [ByteArray.toList_eq]
  rfl
theorem api_one (d : Del) : (delE d).toArray.all (·.oneCell') = true := by simp [delE, Value.oneCell']
theorem parse7_p (l : List UInt8) (hl : l.length ≤ 1000000) (w : World) (hw : LibW w) : Calls Tryz.prog 90 #[.string (sA l)] w fun e w' => e = .returned (.tuple #[delV (parD (guessP l) l).1, .int .i64 (parD (guessP l) l).2]) ∧ Below w.heap.size w w' := by
  have HL := Lib.hid hw
  clear hw
  have HG := Lib.hid (guessP_how l)
  obtain ⟨G, hG⟩ : ∃ G, guessP l = G := ⟨_, rfl⟩
  rw [hG] at HG
  rw [hG]
  obtain ⟨sl, hsl⟩ : ∃ y, sA l = y := ⟨_, rfl⟩
  have hlz : sl.size ≤ 1000000 := by rw [← hsl, sA_size]; exact hl
  rw [hsl]
  have HSL := Lib.hid hsl
  have HGG := Lib.hid hG
  clear hsl hG hl
  go_enter Tryz.func90, Tryz.ntmps90
  go_wp2_with fail
  obtain ⟨b, hb⟩ : ∃ b, w.heap.size + 1 = b := ⟨_, rfl⟩
  rw [hb]
  obtain ⟨h, hh⟩ : ∃ h, b + 1 = h := ⟨_, rfl⟩
  rw [hh]
  obtain ⟨W0, hW0⟩ : ∃ y, w.alloc (.cells (delE zeroD).toArray 36) = y := ⟨_, rfl⟩
  obtain ⟨w1, hw1⟩ : ∃ y, (W0.alloc (.cells #[.string sl] 165)).alloc (.cells (delE ⟨1, 0, 0, 0, 0, false, 0, 0, 0, 0, false, 0⟩).toArray 36) = y := ⟨_, rfl⟩
  have HZ := Lib.hid (show Blk W0 w.heap.size 36 (delE zeroD) by rw [← hW0]; exact Blk.new w _ _)
  have HWB := Lib.hid (show Below w.heap.size w W0 by rw [← hW0]; exact cur_new w _)
  have hs0 : W0.heap.size = b := by rw [← hW0, ← hb]; simp
  have hne : h ≠ b := by omega
  have hrb : w.heap.size < b := by omega
  have H1 : Hid (WSt b h W0 w1 l ⟨1, 0, 0, 0, 0, false, 0, 0, 0, 0, false, 0⟩) := Lib.hid (by
    have k1 : Blk (W0.alloc (.cells #[.string sl] 165)) b 165 [.string (sA l)] := by rw [HSL.out, ← hs0]; exact Blk.new W0 _ [.string sl]
    have hs1 : (W0.alloc (.cells #[.string sl] 165)).heap.size = h := by rw [World.size_alloc, hs0, hh]
    refine ⟨?_, ?_, ?_⟩
    · rw [← hw1]; exact k1.to (cur_new _ _)
    · rw [← hw1, ← hs1]; exact Blk.new _ _ (delE ⟨1, 0, 0, 0, 0, false, 0, 0, 0, 0, false, 0⟩)
    · have hbb : Below W0.heap.size W0 w1 := by rw [← hw1]; exact cur_two W0 _ _
      exact ⟨hbb.os, hbb.tape, hbb.output, hbb.size, fun k hk _ _ => hbb.block k hk⟩)
  have SW1 := Lib.hid (show ((w.alloc (Obj.cells #[.int .u8 0, .int .u8 0, .int .i64 0, .int .i64 0, .int .i64 0, .bool false, .int .u8 0, .int .i64 0, .int .i64 0, .int .i64 0, .bool false, .int .i64 0] 36)).alloc (Obj.cells #[.string sl] 165)).alloc (Obj.cells #[.int .u8 1, .int .u8 0, .int .i64 0, .int .i64 0, .int .i64 0, .bool false, .int .u8 0, .int .i64 0, .int .i64 0, .int .i64 0, .bool false, .int .i64 0] 36) = w1 by rw [← hw1, ← hW0]; rfl)
  rw [SW1.out]
  clear hW0 hw1 SW1
  have HB := Lib.hid hb
  have HH := Lib.hid hh
  have HS0 := Lib.hid hs0
  clear hb hh hs0
  obtain ⟨t1, ht1⟩ : ∃ y, (p1 l).1 = y := ⟨_, rfl⟩
  have Nt1 := Lib.hid ht1
  clear ht1
  obtain ⟨l1, hl1⟩ : ∃ y, (p1 l).2 = y := ⟨_, rfl⟩
  have Nl1 := Lib.hid hl1
  clear hl1
  obtain ⟨v1, hv1⟩ : ∃ y, hasC l 119 = y := ⟨_, rfl⟩
  have Nv1 := Lib.hid hv1
  clear hv1
  obtain ⟨v2, hv2⟩ : ∃ y, hasC l 110 = y := ⟨_, rfl⟩
  have Nv2 := Lib.hid hv2
  clear hv2
  obtain ⟨lt, hlt⟩ : ∃ y, l.tail = y := ⟨_, rfl⟩
  have Nlt := Lib.hid hlt
  clear hlt
  have HP1 := Lib.hid (show (if v1 = true then ((2 : Int), lt) else if v2 = true then (3, lt) else (1, l)) = (t1, l1) by rw [← Nt1.out, ← Nl1.out, ← Nv1.out, ← Nv2.out, ← Nlt.out]; rfl)
  refine (take_p b l 119 w1 H1.out.rd).mono ?_
  rintro e w2 ⟨rfl, hr1, ho1⟩
  rw [Nv1.out]
  rw [takeC, Nv1.out, Nlt.out] at hr1
  have H2 := Lib.hid (H1.out.read hne hr1 ho1)
  clear hr1 ho1
  go_upto_if 13 with fail
  go_cut [] (fun wx => WSt b h W0 wx l1 ⟨t1, 0, 0, 0, 0, false, 0, 0, 0, 0, false, 0⟩)
  case first =>
    cases v1
    case true =>
      have d0 := H2.out.dl.cell 0
      simp only [delE, List.getElem?_cons_succ, List.getElem?_cons_zero] at d0
      have z0 := H2.out.dl.frozen 0
      have hlh := H2.out.dl.lt
      obtain ⟨w3, hw3⟩ : ∃ y, w2.setCell ⟨h, 0, none⟩ (.int .u8 2) = y := ⟨_, rfl⟩
      have H3 : Hid (WSt b h W0 w3 lt ⟨2, 0, 0, 0, 0, false, 0, 0, 0, 0, false, 0⟩) := Lib.hid (by rw [← hw3]; exact H2.out.set hne 0 _ rfl)
      have Sw3 := Lib.hid hw3
      clear hw3
      go_wp2_with (rw [Sw3.out])
      go_meet
      case rel =>
        have e : t1 = 2 ∧ l1 = lt := by have := HP1.out; simp at this; exact ⟨this.1.symm, this.2.symm⟩
        rw [e.1, e.2]
        exact H3.out
    case false =>
      go_wp2_with fail
      refine (take_p b l 110 w2 H2.out.rd).mono ?_
      rintro e w4 ⟨rfl, hr1, ho1⟩
      rw [Nv2.out]
      rw [takeC, Nv2.out, Nlt.out] at hr1
      have H4 := Lib.hid (H2.out.read hne hr1 ho1)
      clear hr1 ho1
      cases v2
      case true =>
        have d0 := H4.out.dl.cell 0
        simp only [delE, List.getElem?_cons_succ, List.getElem?_cons_zero] at d0
        have z0 := H4.out.dl.frozen 0
        have hlh := H4.out.dl.lt
        obtain ⟨w5, hw5⟩ : ∃ y, w4.setCell ⟨h, 0, none⟩ (.int .u8 3) = y := ⟨_, rfl⟩
        have H5 : Hid (WSt b h W0 w5 lt ⟨3, 0, 0, 0, 0, false, 0, 0, 0, 0, false, 0⟩) := Lib.hid (by rw [← hw5]; exact H4.out.set hne 0 _ rfl)
        have Sw5 := Lib.hid hw5
        clear hw5
        go_wp2_with (rw [Sw5.out])
        go_meet
        case rel =>
          have e : t1 = 3 ∧ l1 = lt := by have := HP1.out; simp at this; exact ⟨this.1.symm, this.2.symm⟩
          rw [e.1, e.2]
          exact H5.out
      case false =>
        go_wp2_with fail
        go_meet
        case rel =>
          have e : t1 = 1 ∧ l1 = l := by have := HP1.out; simp at this; exact ⟨this.1.symm, this.2.symm⟩
          rw [e.1, e.2]
          exact H4.out
  case rest =>
  have H6 := Lib.hid hcut
  clear hcut H1 H2
  obtain ⟨s1, hs1⟩ : ∃ y, (p2 t1 l1).1 = y := ⟨_, rfl⟩
  have Ns1 := Lib.hid hs1
  clear hs1
  obtain ⟨l2, hl2⟩ : ∃ y, (p2 t1 l1).2 = y := ⟨_, rfl⟩
  have Nl2 := Lib.hid hl2
  clear hl2
  have d0 := H6.out.dl.cell 0
  simp only [delE, List.getElem?_cons_zero] at d0
  go_wp2_with fail
  clear d0
  refine (rsrc_p b t1 l1 wc H6.out.rd).mono ?_
  rintro e w7 ⟨rfl, hr1, ho1⟩
  rw [Ns1.out]
  rw [Nl2.out] at hr1
  have H7 := Lib.hid (H6.out.read hne hr1 ho1)
  clear hr1 ho1
  have d1 := H7.out.dl.cell 1
  simp only [delE, List.getElem?_cons_succ, List.getElem?_cons_zero] at d1
  have z1 := H7.out.dl.frozen 1
  have hlh := H7.out.dl.lt
  obtain ⟨w8, hw8⟩ : ∃ y, w7.setCell ⟨h, 1, none⟩ (.int .u8 s1) = y := ⟨_, rfl⟩
  have H8 : Hid (WSt b h W0 w8 l2 ⟨t1, s1, 0, 0, 0, false, 0, 0, 0, 0, false, 0⟩) := Lib.hid (by rw [← hw8]; exact H7.out.set hne 1 _ rfl)
  have Sw8 := Lib.hid hw8
  clear hw8
  go_wp2_with (rw [Sw8.out])
  clear d1 z1 hlh H6 H7 Sw8
  obtain ⟨n, hn⟩ : ∃ y, (rdD l2).1 = y := ⟨_, rfl⟩
  have Nn := Lib.hid hn
  clear hn
  obtain ⟨l3, hl3⟩ : ∃ y, (rdD l2).2 = y := ⟨_, rfl⟩
  have Nl3 := Lib.hid hl3
  clear hl3
  refine (rdig_p b l2 w8 H8.out.rd).mono ?_
  rintro e w9 ⟨rfl, hr1, ho1⟩
  rw [Nn.out]
  rw [Nl3.out] at hr1
  have H9 := Lib.hid (H8.out.read hne hr1 ho1)
  clear hr1 ho1
  have d2 := H9.out.dl.cell 2
  simp only [delE, List.getElem?_cons_succ, List.getElem?_cons_zero] at d2
  have z2 := H9.out.dl.frozen 2
  have hlh := H9.out.dl.lt
  obtain ⟨w10, hw10⟩ : ∃ y, w9.setCell ⟨h, 2, none⟩ (.int .i64 n) = y := ⟨_, rfl⟩
  have H10 : Hid (WSt b h W0 w10 l3 ⟨t1, s1, n, 0, 0, false, 0, 0, 0, 0, false, 0⟩) := Lib.hid (by rw [← hw10]; exact H9.out.set hne 2 _ rfl)
  have Sw10 := Lib.hid hw10
  clear hw10
  go_wp2_with (rw [Sw10.out])
  clear d2 z2 hlh H8 H9 Sw10
  obtain ⟨bd, hbd⟩ : ∃ y, (p4 l3).1 = y := ⟨_, rfl⟩
  have Nbd := Lib.hid hbd
  clear hbd
  obtain ⟨l4, hl4⟩ : ∃ y, (p4 l3).2 = y := ⟨_, rfl⟩
  have Nl4 := Lib.hid hl4
  clear hl4
  obtain ⟨v3, hv3⟩ : ∃ y, hasC l3 70 = y := ⟨_, rfl⟩
  have Nv3 := Lib.hid hv3
  clear hv3
  obtain ⟨v4, hv4⟩ : ∃ y, hasC l3 83 = y := ⟨_, rfl⟩
  have Nv4 := Lib.hid hv4
  clear hv4
  obtain ⟨l3t, hl3t⟩ : ∃ y, l3.tail = y := ⟨_, rfl⟩
  have Nl3t := Lib.hid hl3t
  clear hl3t
  have HP4 := Lib.hid (show (if v3 = true then ((4 : Int), l3t) else if v4 = true then (6, l3t) else (0, l3)) = (bd, l4) by rw [← Nbd.out, ← Nl4.out, ← Nv3.out, ← Nv4.out, ← Nl3t.out]; rfl)
  refine (take_p b l3 70 w10 H10.out.rd).mono ?_
  rintro e w11 ⟨rfl, hr1, ho1⟩
  rw [Nv3.out]
  rw [takeC, Nv3.out, Nl3t.out] at hr1
  have H11 := Lib.hid (H10.out.read hne hr1 ho1)
  clear hr1 ho1
  go_upto_if 27 with fail
  go_cut [] (fun wx => WSt b h W0 wx l4 ⟨t1, s1, n, 0, bd, false, 0, 0, 0, 0, false, 0⟩)
  case first =>
    cases v3
    case true =>
      have d4 := H11.out.dl.cell 4
      simp only [delE, List.getElem?_cons_succ, List.getElem?_cons_zero] at d4
      have z4 := H11.out.dl.frozen 4
      have hlh := H11.out.dl.lt
      obtain ⟨w12, hw12⟩ : ∃ y, w11.setCell ⟨h, 4, none⟩ (.int .i64 4) = y := ⟨_, rfl⟩
      have H12 : Hid (WSt b h W0 w12 l3t ⟨t1, s1, n, 0, 4, false, 0, 0, 0, 0, false, 0⟩) := Lib.hid (by rw [← hw12]; exact H11.out.set hne 4 _ rfl)
      have Sw12 := Lib.hid hw12
      clear hw12
      go_wp2_with (rw [Sw12.out])
      go_meet
      case rel =>
        have e : bd = 4 ∧ l4 = l3t := by have := HP4.out; simp at this; exact ⟨this.1.symm, this.2.symm⟩
        rw [e.1, e.2]
        exact H12.out
    case false =>
      go_wp2_with fail
      refine (take_p b l3 83 w11 H11.out.rd).mono ?_
      rintro e w13 ⟨rfl, hr1, ho1⟩
      rw [Nv4.out]
      rw [takeC, Nv4.out, Nl3t.out] at hr1
      have H13 := Lib.hid (H11.out.read hne hr1 ho1)
      clear hr1 ho1
      cases v4
      case true =>
        have d4 := H13.out.dl.cell 4
        simp only [delE, List.getElem?_cons_succ, List.getElem?_cons_zero] at d4
        have z4 := H13.out.dl.frozen 4
        have hlh := H13.out.dl.lt
        obtain ⟨w14, hw14⟩ : ∃ y, w13.setCell ⟨h, 4, none⟩ (.int .i64 6) = y := ⟨_, rfl⟩
        have H14 : Hid (WSt b h W0 w14 l3t ⟨t1, s1, n, 0, 6, false, 0, 0, 0, 0, false, 0⟩) := Lib.hid (by rw [← hw14]; exact H13.out.set hne 4 _ rfl)
        have Sw14 := Lib.hid hw14
        clear hw14
        go_wp2_with (rw [Sw14.out])
        go_meet
        case rel =>
          have e : bd = 6 ∧ l4 = l3t := by have := HP4.out; simp at this; exact ⟨this.1.symm, this.2.symm⟩
          rw [e.1, e.2]
          exact H14.out
      case false =>
        go_wp2_with fail
        go_meet
        case rel =>
          have e : bd = 0 ∧ l4 = l3 := by have := HP4.out; simp at this; exact ⟨this.1.symm, this.2.symm⟩
          rw [e.1, e.2]
          exact H13.out
  case rest =>
  have H15 := Lib.hid hcut
  clear hcut H10 H11
  obtain ⟨sh, hsh⟩ : ∃ y, (p5 l4).1 = y := ⟨_, rfl⟩
  have Nsh := Lib.hid hsh
  clear hsh
  obtain ⟨l5, hl5⟩ : ∃ y, (p5 l4).2 = y := ⟨_, rfl⟩
  have Nl5 := Lib.hid hl5
  clear hl5
  obtain ⟨v5, hv5⟩ : ∃ y, hasC l4 45 = y := ⟨_, rfl⟩
  have Nv5 := Lib.hid hv5
  clear hv5
  obtain ⟨l4t, hl4t⟩ : ∃ y, l4.tail = y := ⟨_, rfl⟩
  have Nl4t := Lib.hid hl4t
  clear hl4t
  have HP5 := Lib.hid (show (if v5 = true then rdD l4t else (0, l4)) = (sh, l5) by rw [← Nsh.out, ← Nl5.out, ← Nv5.out, ← Nl4t.out]; rfl)
  go_wp2_with (fail)
  refine (take_p b l4 45 wc H15.out.rd).mono ?_
  rintro e w16 ⟨rfl, hr1, ho1⟩
  rw [Nv5.out]
  rw [takeC, Nv5.out, Nl4t.out] at hr1
  have H16 := Lib.hid (H15.out.read hne hr1 ho1)
  clear hr1 ho1
  go_upto_if 33 with fail
  go_cut [] (fun wx => WSt b h W0 wx l5 ⟨t1, s1, n, sh, bd, false, 0, 0, 0, 0, false, 0⟩)
  case first =>
    cases v5
    case true =>
      have e : (rdD l4t).1 = sh ∧ (rdD l4t).2 = l5 := by have := HP5.out; rw [if_pos rfl] at this; rw [this]; exact ⟨rfl, rfl⟩
      obtain ⟨e1, e2⟩ := e
      have E1 := Lib.hid e1
      have E2 := Lib.hid e2
      clear e1 e2
      go_wp2_with fail
      refine (rdig_p b l4t w16 H16.out.rd).mono ?_
      rintro e w17 ⟨rfl, hr1, ho1⟩
      rw [E1.out]
      rw [E2.out] at hr1
      have H17 := Lib.hid (H16.out.read hne hr1 ho1)
      clear hr1 ho1
      have d3 := H17.out.dl.cell 3
      simp only [delE, List.getElem?_cons_succ, List.getElem?_cons_zero] at d3
      have z3 := H17.out.dl.frozen 3
      have hlh := H17.out.dl.lt
      obtain ⟨w18, hw18⟩ : ∃ y, w17.setCell ⟨h, 3, none⟩ (.int .i64 sh) = y := ⟨_, rfl⟩
      have H18 : Hid (WSt b h W0 w18 l5 ⟨t1, s1, n, sh, bd, false, 0, 0, 0, 0, false, 0⟩) := Lib.hid (by rw [← hw18]; exact H17.out.set hne 3 _ rfl)
      have Sw18 := Lib.hid hw18
      clear hw18
      go_wp2_with (rw [Sw18.out])
      go_meet
      case rel => exact H18.out
    case false =>
      go_wp2_with fail
      go_meet
      case rel =>
        have e : sh = 0 ∧ l5 = l4 := by have := HP5.out; simp at this; exact ⟨this.1.symm, this.2.symm⟩
        rw [e.1, e.2]
        exact H16.out
  case rest =>
  have H19 := Lib.hid hcut
  clear hcut H15 H16
  obtain ⟨cr, hcr⟩ : ∃ y, hasC l5 120 = y := ⟨_, rfl⟩
  have Ncr := Lib.hid hcr
  clear hcr
  obtain ⟨l6, hl6⟩ : ∃ y, takeC l5 120 = y := ⟨_, rfl⟩
  have Nl6 := Lib.hid hl6
  clear hl6
  go_wp2_with (fail)
  refine (take_p b l5 120 wc H19.out.rd).mono ?_
  rintro e w20 ⟨rfl, hr1, ho1⟩
  rw [Ncr.out]
  rw [Nl6.out] at hr1
  have H20 := Lib.hid (H19.out.read hne hr1 ho1)
  clear hr1 ho1
  have d5 := H20.out.dl.cell 5
  simp only [delE, List.getElem?_cons_succ, List.getElem?_cons_zero] at d5
  have z5 := H20.out.dl.frozen 5
  have hlh := H20.out.dl.lt
  obtain ⟨w21, hw21⟩ : ∃ y, w20.setCell ⟨h, 5, none⟩ (.bool cr) = y := ⟨_, rfl⟩
  have H21 : Hid (WSt b h W0 w21 l6 ⟨t1, s1, n, sh, bd, cr, 0, 0, 0, 0, false, 0⟩) := Lib.hid (by rw [← hw21]; exact H20.out.set hne 5 _ rfl)
  have Sw21 := Lib.hid hw21
  clear hw21
  go_wp2_with (rw [Sw21.out])
  clear d5 z5 hlh H19 H20 Sw21
  obtain ⟨K, hK⟩ : ∃ K, p7 l6 = K := ⟨_, rfl⟩
  have NK := Lib.hid hK
  clear hK
  refine (rwicket_p b h hne l6 t1 s1 n sh bd cr 0 w21 ⟨H21.out.rd, H21.out.dl, Oth2.refl b h _⟩).mono ?_
  rintro e w22 ⟨rfl, hr1⟩
  rw [NK.out] at hr1
  have H22 := Lib.hid (show WSt b h W0 w22 K.2 ⟨t1, s1, n, sh, bd, cr, K.1.how, K.1.vic, K.1.fd, K.1.sd, K.1.sub, 0⟩ from ⟨hr1.rd, hr1.dl, ⟨hr1.ot.os.trans H21.out.ot.os, hr1.ot.tape.trans H21.out.ot.tape, hr1.ot.output.trans H21.out.ot.output, Nat.le_trans H21.out.ot.size hr1.ot.size, fun k hk h1 h2 => (hr1.ot.block k (Nat.lt_of_lt_of_le hk H21.out.ot.size) h1 h2).trans (H21.out.ot.block k hk h1 h2)⟩⟩)
  clear hr1
  obtain ⟨K1, l7⟩ := K
  obtain ⟨how, vic, fd, sd, sub⟩ := K1
  dsimp only at H22
  go_wp2_with (fail)
  obtain ⟨sec, hsec⟩ : ∃ y, p8 l7 = y := ⟨_, rfl⟩
  have Nsec := Lib.hid hsec
  clear hsec
  obtain ⟨v8, hv8⟩ : ∃ y, hasC l7 64 = y := ⟨_, rfl⟩
  have Nv8 := Lib.hid hv8
  clear hv8
  obtain ⟨l7t, hl7t⟩ : ∃ y, l7.tail = y := ⟨_, rfl⟩
  have Nl7t := Lib.hid hl7t
  clear hl7t
  have HP8 := Lib.hid (show (if v8 = true then (rdD l7t).1 else 0) = sec by rw [← Nsec.out, ← Nv8.out, ← Nl7t.out]; rfl)
  refine (take_p b l7 64 w22 H22.out.rd).mono ?_
  rintro e w23 ⟨rfl, hr1, ho1⟩
  rw [Nv8.out]
  rw [takeC, Nv8.out, Nl7t.out] at hr1
  have H23 := Lib.hid (H22.out.read hne hr1 ho1)
  clear hr1 ho1
  go_upto_if 43 with fail
  go_cut [] (fun wx => Blk wx h 36 (delE ⟨t1, s1, n, sh, bd, cr, how, vic, fd, sd, sub, sec⟩) ∧ Oth2 b h W0 wx)
  case first =>
    cases v8
    case true =>
      have E1 : Hid ((rdD l7t).1 = sec) := Lib.hid (by have := HP8.out; rw [if_pos rfl] at this; exact this)
      go_wp2_with fail
      refine (rdig_p b l7t w23 H23.out.rd).mono ?_
      rintro e w24 ⟨rfl, hr1, ho1⟩
      rw [E1.out]
      have H24 := Lib.hid (H23.out.read hne hr1 ho1)
      clear hr1 ho1
      have d11 := H24.out.dl.cell 11
      simp only [delE, List.getElem?_cons_succ, List.getElem?_cons_zero] at d11
      have z11 := H24.out.dl.frozen 11
      have hlh := H24.out.dl.lt
      obtain ⟨w25, hw25⟩ : ∃ y, w24.setCell ⟨h, 11, none⟩ (.int .i64 sec) = y := ⟨_, rfl⟩
      have H25 : Hid (WSt b h W0 w25 (rdD l7t).2 ⟨t1, s1, n, sh, bd, cr, how, vic, fd, sd, sub, sec⟩) := Lib.hid (by rw [← hw25]; exact H24.out.set hne 11 _ rfl)
      have Sw25 := Lib.hid hw25
      clear hw25
      go_wp2_with (rw [Sw25.out])
      go_meet
      case rel => exact ⟨H25.out.dl, H25.out.ot⟩
    case false =>
      go_wp2_with fail
      go_meet
      case rel =>
        have e : sec = 0 := by have := HP8.out; simp at this; exact this.symm
        rw [e]
        exact ⟨H23.out.dl, H23.out.ot⟩
  case rest =>
  obtain ⟨hdl, hot⟩ := hcut
  clear H22 H23
  have hGe : G = ⟨t1, s1, n, sh, bd, cr, how, vic, fd, sd, sub, sec⟩ := by
    rw [← HGG.out]
    unfold guessP
    dsimp only
    rw [Nt1.out, Nl1.out, Ns1.out, Nl2.out, Nn.out, Nl3.out, Nbd.out, Nl4.out, Nsh.out, Nl5.out, Ncr.out, Nl6.out, NK.out]
    dsimp only
    rw [Nsec.out]
  rw [← hGe] at hdl
  have HGE := Lib.hid hGe
  clear hGe
  have hbw : Below w.heap.size w wc := hot.below HWB.out (by omega) (by have := HH.out; omega) HWB.out.size
  have hzz : Blk wc w.heap.size 36 (delE zeroD) := hot.blk HZ.out (by omega) (by have := HH.out; omega)
  have HLW := Lib.hid (HL.out.to hbw)
  have HDL := Lib.hid hdl
  have HZZ := Lib.hid hzz
  have HBW := Lib.hid hbw
  clear hdl hot hbw hzz HGE
  go_wp2_with (refine wpList_loadC rfl _ 36 rfl h 36 (delE G) _ rfl (by rfl) (by rfl) (by rfl) HDL.out ?_)
  by_cases hc : chkD G = 0
  · have HC := Lib.hid hc
    clear hc
    obtain ⟨tS, htS⟩ : ∃ y, sA (prtD G) = y := ⟨_, rfl⟩
    have NtS := Lib.hid htS
    clear htS
    refine (print_p G HC.out HG.out.1 wc HLW.out).mono ?_
    rintro e w26 ⟨rfl, hb26⟩
    rw [NtS.out]
    have HDL2 := Lib.hid (HDL.out.to hb26)
    have HZZ2 := Lib.hid (HZZ.out.to hb26)
    have HBW2 := Lib.hid (cur_step1 HBW.out hb26)
    clear hb26
    by_cases hp : prtD G = l
    · have g1 : (tS.toList == sl.toList) = true := by rw [← NtS.out, ← HSL.out, hp]; simp
      have HP := Lib.hid (show parD G l = (G, 0) by unfold parD; rw [if_pos ⟨HC.out, hp⟩])
      clear hp
      go_wp2_with (first | (refine wpList_loadC rfl _ 36 rfl h 36 (delE G) _ rfl (by rfl) (by rfl) (by rfl) HDL2.out ?_) | (refine wpList_storeC rfl _ _ 36 rfl w.heap.size 36 (delE zeroD) (delE G).toArray api_info (by rfl) (by rfl) HZZ2.out rfl (api_one _) ?_))
      refine ret_cell2 (g := w.heap.size) (e := 36) (xs := (delE G).toArray.toList) rfl (by rfl) (by rfl) (blk_row HZZ2.out _) rfl (by rfl) (by rfl) rfl ?_
      rw [HP.out]
      exact ⟨rfl, row_below HBW2.out (Nat.le_refl _) _⟩
    · have g1 : (tS.toList == sl.toList) = false := by
        rw [← NtS.out, ← HSL.out]
        simp only [beq_eq_false_iff_ne, ne_eq]
        intro he
        apply hp
        rw [sA_to, sA_to] at he
        exact he
      have HP := Lib.hid (show parD G l = (zeroD, 4) by unfold parD; rw [if_neg (fun q => hp q.2)])
      clear hp
      go_wp2_with (first | (refine wpList_loadC rfl _ 36 rfl h 36 (delE G) _ rfl (by rfl) (by rfl) (by rfl) HDL2.out ?_) | (refine wpList_storeC rfl _ _ 36 rfl w.heap.size 36 (delE zeroD) (delE zeroD).toArray api_info (by rfl) (by rfl) HZZ2.out rfl (api_one _) ?_))
      refine ret_cell2 (g := w.heap.size) (e := 36) (xs := (delE zeroD).toArray.toList) rfl (by rfl) (by rfl) (blk_row HZZ2.out _) rfl (by rfl) (by rfl) rfl ?_
      rw [HP.out]
      exact ⟨rfl, row_below HBW2.out (Nat.le_refl _) _⟩
  · obtain ⟨v, hv⟩ : ∃ v, chkD G = v := ⟨_, rfl⟩
    have g1 : (v != 0) = true := by rw [← hv]; simpa using hc
    have HP := Lib.hid (show parD G l = (zeroD, 4) by unfold parD; rw [if_neg (fun q => hc q.1)])
    have HV := Lib.hid hv
    have HV0 := Lib.hid (show v ≠ 0 by rw [← hv]; exact hc)
    clear hc hv
    refine (print_e G v HV.out HV0.out wc).mono ?_
    rintro e w26 ⟨rfl, hb26⟩
    have HDL2 := Lib.hid (HDL.out.to hb26)
    have HZZ2 := Lib.hid (HZZ.out.to hb26)
    have HBW2 := Lib.hid (cur_step1 HBW.out hb26)
    clear hb26
    go_wp2_with (first | (refine wpList_storeC rfl _ _ 36 rfl w.heap.size 36 (delE zeroD) (delE zeroD).toArray api_info (by rfl) (by rfl) HZZ2.out rfl (api_one _) ?_))
    refine ret_cell2 (g := w.heap.size) (e := 36) (xs := (delE zeroD).toArray.toList) rfl (by rfl) (by rfl) (blk_row HZZ2.out _) rfl (by rfl) (by rfl) rfl ?_
    rw [HP.out]
    exact ⟨rfl, row_below HBW2.out (Nat.le_refl _) _⟩
end Go.Proofs.YtdbiihfoafoljaaGreatDoor
