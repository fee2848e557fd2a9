/-
  Chapter 8: Check of the program.
-/
import Derived.Test.YtdbiihfoafoljaaGreatDoorDelQ
import Derived.StillTailTactics
set_option linter.unusedSimpArgs false
set_option linter.unusedVariables false
namespace Go.Proofs.YtdbiihfoafoljaaGreatDoor
open Go.RowKit
set_option maxRecDepth 100000
set_option maxHeartbeats 4000000
def evV (e : Ev) : Value := .agg #[.int .u8 e.kind, .int .i64 e.side, .int .i64 e.player, .int .i64 e.other, .bool e.yes, .int .i64 e.runs, .int .i64 e.overs, .int .u8 e.ball.ty, .int .u8 e.ball.src, .int .i64 e.ball.runs, .int .i64 e.ball.short, .int .i64 e.ball.bd, .bool e.ball.cr, .int .u8 e.ball.how, .int .i64 e.ball.vic, .int .i64 e.ball.fd, .int .i64 e.ball.sd, .bool e.ball.sub, .int .i64 e.ball.sec]
theorem evV_is (e : Ev) : evV e = .agg (evE e).toArray := rfl
def allF (e : Ev) : List (Int × Bool × Bool) := [(115, !nzF e 115, fitF e 115), (112, !nzF e 112, fitF e 112), (111, !nzF e 111, fitF e 111), (121, !nzF e 121, fitF e 121), (114, !nzF e 114, fitF e 114), (118, !nzF e 118, fitF e 118), (98, !nzF e 98, fitF e 98)]
def trE (x : UInt8 × Bool × Bool) : List Value := [.int .u8 x.1.toNat, .bool x.2.1, .bool x.2.2]
theorem trE_len (x : UInt8 × Bool × Bool) : (trE x).length = 3 := rfl
theorem any_take {α : Type} {l : List α} {k : Nat} {c : α} {p : α → Bool} (h : (l.take k).any p = false) (hc : l[k]? = some c) (hp : p c = false) : (l.take (k + 1)).any p = false := by
  rw [List.take_add_one, hc]
  simp [h, hp]
theorem any_hit {α : Type} {l : List α} {k : Nat} {c : α} {p : α → Bool} (hc : l[k]? = some c) (hp : p c = true) : l.any p = true := List.any_eq_true.2 ⟨c, List.mem_of_getElem? hc, hp⟩
def CkR (p : UInt8 → Bool) (C E : List Value) (g b : Nat) (w : World) (iv : Value) (wr : World) : Prop := ∃ k : Nat, k ≤ 7 ∧ iv = .int .i64 k ∧ (allC.take k).any p = false ∧ Blk wr g 86 C ∧ Blk wr b 38 E ∧ Below w.heap.size w wr
theorem btw_still (n lo hi : Int) (v : Bool) (w : World) (hv : btw n lo hi = v) : Calls Tryz.prog 39 #[.int .i64 n, .int .i64 lo, .int .i64 hi] w fun e w' => e = .returned (.bool v) ∧ w' = w := (between_p n lo hi v w hv).mono fun _ _ h => ⟨h.1, h.2.symm⟩
theorem chke_p (e : Ev) (w : World) : Calls Tryz.prog 16 #[evV e] w fun e' w' => e' = .returned (.int .i64 (chkE e)) ∧ Below w.heap.size w w' := by
  by_cases hk0 : e.kind < 1
  · have HR := Lib.hid (show chkE e = 3 by unfold chkE; rw [if_pos (by simp [hk0])])
    have hb := cur_new w (.cells (evE e).toArray 38)
    simp only [evE, delE, List.cons_append, List.nil_append] at hb
    have g1 : decide (e.kind < 1) = true := by simpa using hk0
    unfold evV
    go_enter Tryz.func16, Tryz.ntmps16
    go_wp2_with (fail)
    go_ret
    rw [HR.out]
    exact ⟨rfl, hb⟩
  by_cases hk1 : 16 < e.kind
  · have HR := Lib.hid (show chkE e = 3 by unfold chkE; rw [if_pos (by simp [hk1])])
    have hb := cur_new w (.cells (evE e).toArray 38)
    simp only [evE, delE, List.cons_append, List.nil_append] at hb
    have g1 : decide (e.kind < 1) = false := by simpa using hk0
    have g2 : decide (16 < e.kind) = true := by simpa using hk1
    unfold evV
    go_enter Tryz.func16, Tryz.ntmps16
    go_wp2_with (fail)
    go_ret
    rw [HR.out]
    exact ⟨rfl, hb⟩
  obtain ⟨n, hn, hkn⟩ : ∃ n : Nat, n < 16 ∧ e.kind = (n : Int) + 1 := ⟨(e.kind - 1).toNat, by omega, by omega⟩
  have HR := Lib.hid (show chkE e = if allC.any (fun c => nzF e c && !usesB ((n : Int) + 1) c) then 1 else if allC.any (fun c => !fitF e c && usesB ((n : Int) + 1) c) then 2 else if n = 3 then chkD e.ball else 0 by
    unfold chkE
    rw [if_neg (by simp; omega), hkn]
    by_cases h3 : n = 3
    · subst h3; rfl
    · rw [if_neg (show ¬ (n : Int) + 1 = 4 by omega), if_neg h3])
  obtain ⟨R, hR⟩ : ∃ R, chkE e = R := ⟨_, rfl⟩
  rw [hR] at HR ⊢
  have hbx := cur_new w (.cells (evE e).toArray 38)
  have hblk := Blk.new w 38 (evE e)
  obtain ⟨w1, hw1⟩ : ∃ y, w.alloc (.cells (evE e).toArray 38) = y := ⟨_, rfl⟩
  rw [hw1] at hbx hblk
  have SW1 := Lib.hid (show w.alloc (.cells #[.int .u8 e.kind, .int .i64 e.side, .int .i64 e.player, .int .i64 e.other, .bool e.yes, .int .i64 e.runs, .int .i64 e.overs, .int .u8 e.ball.ty, .int .u8 e.ball.src, .int .i64 e.ball.runs, .int .i64 e.ball.short, .int .i64 e.ball.bd, .bool e.ball.cr, .int .u8 e.ball.how, .int .i64 e.ball.vic, .int .i64 e.ball.fd, .int .i64 e.ball.sd, .bool e.ball.sub, .int .i64 e.ball.sec] 38) = w1 from hw1)
  have HK := Lib.hid hblk
  have HB := Lib.hid hbx
  obtain ⟨b, hb⟩ : ∃ b, w.heap.size = b := ⟨_, rfl⟩
  rw [hb] at HK
  have HBB := Lib.hid hb
  have hbl : b < w1.heap.size := HK.out.lt
  unfold evV
  rw [hkn] at SW1 ⊢
  have g1 : decide ((n : Int) + 1 < 1) = false := by simp; omega
  have g2 : decide (16 < (n : Int) + 1) = false := by simp; omega
  obtain ⟨lo, hlo⟩ : ∃ y, loR ((n : Int) + 1) = y := ⟨_, rfl⟩
  obtain ⟨hi, hhi⟩ : ∃ y, hiR ((n : Int) + 1) = y := ⟨_, rfl⟩
  have HLO := Lib.hid hlo
  have HHI := Lib.hid hhi
  obtain ⟨fs, hfs⟩ : ∃ y, btw e.side 1 2 = y := ⟨_, rfl⟩
  have HFs := Lib.hid hfs
  obtain ⟨fp, hfp⟩ : ∃ y, btw e.player 1 11 = y := ⟨_, rfl⟩
  have HFp := Lib.hid hfp
  obtain ⟨fo, hfo⟩ : ∃ y, btw e.other 1 11 = y := ⟨_, rfl⟩
  have HFo := Lib.hid hfo
  obtain ⟨fr, hfr⟩ : ∃ y, btw e.runs lo hi = y := ⟨_, rfl⟩
  have HFr := Lib.hid hfr
  obtain ⟨fv, hfv⟩ : ∃ y, btw e.overs 0 90 = y := ⟨_, rfl⟩
  have HFv := Lib.hid hfv
  have hcb := HK.out.cell
  rw [show evE e = [.int .u8 ((n : Int) + 1), .int .i64 e.side, .int .i64 e.player, .int .i64 e.other, .bool e.yes, .int .i64 e.runs, .int .i64 e.overs, .int .u8 e.ball.ty, .int .u8 e.ball.src, .int .i64 e.ball.runs, .int .i64 e.ball.short, .int .i64 e.ball.bd, .bool e.ball.cr, .int .u8 e.ball.how, .int .i64 e.ball.vic, .int .i64 e.ball.fd, .int .i64 e.ball.sd, .bool e.ball.sub, .int .i64 e.ball.sec] from by rw [← hkn]; rfl] at hcb
  have d0 := hcb 0
  have d1 := hcb 1
  have d2 := hcb 2
  have d3 := hcb 3
  have d4 := hcb 4
  have d5 := hcb 5
  have d6 := hcb 6
  have d7 := hcb 7
  have d8 := hcb 8
  have d9 := hcb 9
  have d10 := hcb 10
  have d11 := hcb 11
  have d12 := hcb 12
  have d13 := hcb 13
  have d14 := hcb 14
  have d15 := hcb 15
  have d16 := hcb 16
  have d17 := hcb 17
  have d18 := hcb 18
  simp only [List.getElem?_cons_succ, List.getElem?_cons_zero] at d0 d1 d2 d3 d4 d5 d6 d7 d8 d9 d10 d11 d12 d13 d14 d15 d16 d17 d18
  have HKN := Lib.hid hkn
  clear hw1 hbx hblk hb hcb hlo hhi hfs hfp hfo hfr hfv hkn hk0 hk1 hR
  obtain ⟨fb, hfb⟩ : ∃ y, decide (e.ball = zeroD) = y := ⟨_, rfl⟩
  have kq : ∀ w : World, (binOp .eql 36 (.agg #[.int .u8 e.ball.ty, .int .u8 e.ball.src, .int .i64 e.ball.runs, .int .i64 e.ball.short, .int .i64 e.ball.bd, .bool e.ball.cr, .int .u8 e.ball.how, .int .i64 e.ball.vic, .int .i64 e.ball.fd, .int .i64 e.ball.sd, .bool e.ball.sub, .int .i64 e.ball.sec]) (.agg #[.int .u8 0, .int .u8 0, .int .i64 0, .int .i64 0, .int .i64 0, .bool false, .int .u8 0, .int .i64 0, .int .i64 0, .int .i64 0, .bool false, .int .i64 0])).run Tryz.prog w = .ok (.bool fb) w := fun w => by rw [← hfb]; exact del_eql e.ball zeroD w
  have HFb := Lib.hid hfb
  clear hfb
  go_enter Tryz.func16, Tryz.ntmps16
  go_wp2_with (rw [SW1.out, HBB.out])
  refine (bounds_p _ _).mono ?_
  rintro e' w2 ⟨rfl, rfl⟩
  rw [HLO.out, HHI.out]
  go_wp2_with (fail)
  refine wp_region_still_tail 46 (by kernel_rfl) (by kernel_rfl) ?_
  simp only [List.take_succ_cons, List.take_zero, List.drop_succ_cons, List.drop_zero]
  repeat (first | still_step | still_call (btw_still _ _ _ _ _ (by first | exact HFs.out | exact HFp.out | exact HFo.out | exact HFr.out | exact HFv.out)))
  refine wpStill_nil ?_
  go_wp2_with (fail)
  obtain ⟨L7, hL7⟩ : ∃ L : List (UInt8 × Bool × Bool), L = [(115, e.side == 0, fs), (112, e.player == 0, fp), (111, e.other == 0, fo), (121, !e.yes, true), (114, e.runs == 0, fr), (118, e.overs == 0, fv), (98, fb, true)] := ⟨_, rfl⟩
  have hx7 : ∀ (k : Nat) (x : UInt8 × Bool × Bool), L7[k]? = some x → allC[k]? = some x.1 ∧ x.2.1 = !nzF e x.1 ∧ x.2.2 = fitF e x.1 := by
    intro k x hx
    rw [hL7] at hx
    have hk : k < 7 := by have := (List.getElem?_eq_some_iff.1 hx).1; simpa using this
    rcases (by omega : k = 0 ∨ k = 1 ∨ k = 2 ∨ k = 3 ∨ k = 4 ∨ k = 5 ∨ k = 6) with rfl | rfl | rfl | rfl | rfl | rfl | rfl <;> (simp only [List.getElem?_cons_succ, List.getElem?_cons_zero, Option.some.injEq] at hx; subst hx; refine ⟨rfl, ?_, ?_⟩)
    · simp [nzF, bne]
    · exact HFs.out.symm
    · simp [nzF, bne]
    · exact HFp.out.symm
    · simp [nzF, bne]
    · exact HFo.out.symm
    · simp [nzF]
    · rfl
    · simp [nzF, bne]
    · show fr = btw e.runs (loR e.kind) (hiR e.kind); rw [HKN.out, HLO.out, HHI.out, HFr.out]
    · simp [nzF, bne]
    · exact HFv.out.symm
    · show fb = !(decide (e.ball ≠ zeroD)); rw [← HFb.out]; simp
    · rfl
  have hl7 : L7.length = 7 := by rw [hL7]; rfl
  obtain ⟨w2, hw2⟩ : ∃ y, (w1.alloc (.cells (L7.flatMap trE).toArray 86)).drew = y := ⟨_, rfl⟩
  have HG := Lib.hid (show Blk w2 w1.heap.size 86 (L7.flatMap trE) by rw [← hw2]; exact Blk.new w1 _ _)
  have HE2 := Lib.hid (show Blk w2 b 38 (evE e) by rw [← hw2]; exact HK.out.to (cur_new w1 _).drew)
  have HB2 := Lib.hid (show Below w.heap.size w w2 by rw [← hw2]; exact cur_step1 HB.out (cur_new w1 _).drew)
  rw [show (w1.alloc (Obj.cells #[.int .u8 115, .bool (e.side == 0), .bool fs, .int .u8 112, .bool (e.player == 0), .bool fp, .int .u8 111, .bool (e.other == 0), .bool fo, .int .u8 121, .bool !e.yes, .bool true, .int .u8 114, .bool (e.runs == 0), .bool fr, .int .u8 118, .bool (e.overs == 0), .bool fv, .int .u8 98, .bool fb, .bool true] 86)).drew = w2 from by rw [← hw2, hL7]; rfl]
  obtain ⟨g, hg⟩ : ∃ y, w1.heap.size = y := ⟨_, rfl⟩
  rw [hg] at HG ⊢
  have H7 := Lib.hid hx7
  have HL7 := Lib.hid hl7
  clear hw2 hL7 hx7 hl7 hg kq SW1 HK HB d0 d1 d2 d3 d4 d5 d6 d7 d8 d9 d10 d11 d12 d13 d14 d15 d16 d17 d18
  obtain ⟨C7, hC7⟩ : ∃ y, L7.flatMap trE = y := ⟨_, rfl⟩
  rw [hC7] at HG
  have HC7 := Lib.hid hC7
  have H18 := Lib.hid (show n + 1 ≤ 16 by omega)
  clear hC7
  go_loopw [73] (CkR (fun c => nzF e c && !usesB ((n : Int) + 1) c) C7 (evE e) g b w) (fun i _ => 7 - (intOf i).toNat)
  case atStart => exact ⟨0, by omega, rfl, rfl, HG.out, HE2.out, HB2.out⟩
  case round =>
    obtain ⟨k, hk, rfl, hany, hbg, hbe, hb⟩ := hrel
    have HG := Lib.hid hbg
    have HE := Lib.hid hbe
    have HB := Lib.hid hb
    have HA := Lib.hid hany
    have hgl := hbg.lt
    clear hbg hbe hb hany
    by_cases hk7 : k < 7
    · obtain ⟨x, hx⟩ : ∃ x, L7[k]? = some x := ⟨_, List.getElem?_eq_getElem (by rw [HL7.out]; exact hk7)⟩
      obtain ⟨hc, hz, hf⟩ := H7.out k x hx
      have hfl : ∀ j u, (trE x)[j]? = some u → wr.cell? ⟨g, k * 3 + j, none⟩ = some u := fun j u hu => by
        rw [HG.out.cell, ← HC7.out]
        exact flat_at trE_len L7 k x hx j u hu
      have d0 := hfl 0 _ rfl
      have d1 := hfl 1 _ rfl
      have d2 := hfl 2 _ rfl
      simp only [Nat.add_zero] at d0
      obtain ⟨c, z, ft⟩ := x
      dsimp only at d0 d1 d2 hc hz hf
      have HC := Lib.hid hc
      have hnw := cur_new wr (.cells #[.int .u8 c.toNat, .bool z, .bool ft] 86)
      clear hfl hc hx
      cases z with
      | true =>
        have HZ := Lib.hid (show nzF e c = false by simpa using hz)
        have HN := Lib.hid hnw
        clear hz hf hnw
        go_wp2_with (fail)
        exact ⟨⟨k + 1, by omega, rfl, any_take HA.out HC.out (by simp only [HZ.out]; rfl), HG.out.to HN.out, HE.out.to HN.out, cur_step1 HB.out HN.out⟩, by show 7 - (k + 1) < 7 - k; omega⟩
      | false =>
        have HZ := Lib.hid (show nzF e c = true by simpa using hz)
        have HN := Lib.hid hnw
        clear hz hf hnw
        go_wp2_with (fail)
        refine (uses_p n hn c _).mono ?_
        rintro e' w4 ⟨rfl, hb4⟩
        have HB4 := Lib.hid (cur_step1 HN.out hb4)
        clear hb4
        cases hu : usesB ((n : Int) + 1) c with
        | true =>
          go_wp2_with (fail)
          exact ⟨⟨k + 1, by omega, rfl, any_take HA.out HC.out (by simp only [hu]; simp), HG.out.to HB4.out, HE.out.to HB4.out, cur_step1 HB.out HB4.out⟩, by show 7 - (k + 1) < 7 - k; omega⟩
        | false =>
          have HRR := Lib.hid (show R = 1 by rw [HR.out, if_pos (any_hit HC.out (by simp only [hu, HZ.out]; rfl))])
          go_wp2_with (fail)
          go_ret
          rw [HRR.out]
          exact ⟨rfl, cur_step1 HB.out HB4.out⟩
    · have hk8 : k = 7 := by omega
      subst hk8
      have HA2 := Lib.hid (show allC.any (fun c => nzF e c && !usesB ((n : Int) + 1) c) = false from HA.out)
      clear HA
      have HA1 := Lib.hid HA2.out
      clear HA2
      rw [show (((7 : Nat)) : Int) = 7 from rfl]
      go_wp2_with (fail)
      go_loopw [90] (CkR (fun c => !fitF e c && usesB ((n : Int) + 1) c) C7 (evE e) g b w) (fun i _ => 7 - (intOf i).toNat)
      case atStart => exact ⟨0, by omega, rfl, rfl, HG.out, HE.out, HB.out⟩
      case round =>
        obtain ⟨k, hk, rfl, hany, hbg, hbe, hb⟩ := hrel
        have HG := Lib.hid hbg
        have HE := Lib.hid hbe
        have HB := Lib.hid hb
        have HA := Lib.hid hany
        have hgl := hbg.lt
        clear hbg hbe hb hany
        by_cases hk7 : k < 7
        · obtain ⟨x, hx⟩ : ∃ x, L7[k]? = some x := ⟨_, List.getElem?_eq_getElem (by rw [HL7.out]; exact hk7)⟩
          obtain ⟨hc, hz, hf⟩ := H7.out k x hx
          have hfl : ∀ j u, (trE x)[j]? = some u → wr.cell? ⟨g, k * 3 + j, none⟩ = some u := fun j u hu => by
            rw [HG.out.cell, ← HC7.out]
            exact flat_at trE_len L7 k x hx j u hu
          have d0 := hfl 0 _ rfl
          have d1 := hfl 1 _ rfl
          have d2 := hfl 2 _ rfl
          simp only [Nat.add_zero] at d0
          obtain ⟨c, z, ft⟩ := x
          dsimp only at d0 d1 d2 hc hz hf
          have HC := Lib.hid hc
          have hnw := cur_new wr (.cells #[.int .u8 c.toNat, .bool z, .bool ft] 86)
          clear hfl hc hx
          cases ft with
          | true =>
            have HZ := Lib.hid (show fitF e c = true from hf.symm)
            have HN := Lib.hid hnw
            clear hz hf hnw
            go_wp2_with (fail)
            exact ⟨⟨k + 1, by omega, rfl, any_take HA.out HC.out (by simp only [HZ.out]; rfl), HG.out.to HN.out, HE.out.to HN.out, cur_step1 HB.out HN.out⟩, by show 7 - (k + 1) < 7 - k; omega⟩
          | false =>
            have HZ := Lib.hid (show fitF e c = false from hf.symm)
            have HN := Lib.hid hnw
            clear hz hf hnw
            go_wp2_with (fail)
            refine (uses_p n hn c _).mono ?_
            rintro e' w4 ⟨rfl, hb4⟩
            have HB4 := Lib.hid (cur_step1 HN.out hb4)
            clear hb4
            cases hu : usesB ((n : Int) + 1) c with
            | false =>
              go_wp2_with (fail)
              go_roundw
              case rel => exact ⟨k + 1, by omega, rfl, any_take HA.out HC.out (by simp only [hu]; simp), HG.out.to HB4.out, HE.out.to HB4.out, cur_step1 HB.out HB4.out⟩
              case measure => show 7 - (k + 1) < 7 - k; omega
            | true =>
              have HRR := Lib.hid (show R = 2 by rw [HR.out, HA1.out, if_neg (by decide), if_pos (any_hit HC.out (by simp only [hu, HZ.out]; rfl))])
              go_wp2_with (fail)
              go_ret
              rw [HRR.out]
              exact ⟨rfl, cur_step1 HB.out HB4.out⟩
        · have hk8 : k = 7 := by omega
          subst hk8
          have HA2 := Lib.hid (show allC.any (fun c => !fitF e c && usesB ((n : Int) + 1) c) = false from HA.out)
          clear HA
          by_cases h3 : n = 3
          · subst h3
            have HRR := Lib.hid (show R = chkD e.ball by rw [HR.out, HA1.out, HA2.out]; rfl)
            have hcb := HE.out.cell
            have d7 := hcb 7
            have d8 := hcb 8
            have d9 := hcb 9
            have d10 := hcb 10
            have d11 := hcb 11
            have d12 := hcb 12
            have d13 := hcb 13
            have d14 := hcb 14
            have d15 := hcb 15
            have d16 := hcb 16
            have d17 := hcb 17
            have d18 := hcb 18
            simp only [evE, delE, List.cons_append, List.nil_append, List.getElem?_cons_succ, List.getElem?_cons_zero] at d7 d8 d9 d10 d11 d12 d13 d14 d15 d16 d17 d18
            clear hcb
            go_wp2_with (fail)
            refine (chk_p e.ball _).mono ?_
            rintro e' w4 ⟨rfl, hb4⟩
            go_wp2_with (fail)
            go_ret
            rw [HRR.out]
            exact ⟨rfl, cur_step1 HB.out hb4⟩
          · have HRR := Lib.hid (show R = 0 by rw [HR.out, HA1.out, HA2.out, if_neg (by decide), if_neg (by decide), if_neg h3])
            have g4 : ((n : Int) + 1 == 4) = false := by simp; omega
            go_wp2_with (fail)
            go_ret
            rw [HRR.out]
            exact ⟨rfl, HB.out⟩
end Go.Proofs.YtdbiihfoafoljaaGreatDoor
