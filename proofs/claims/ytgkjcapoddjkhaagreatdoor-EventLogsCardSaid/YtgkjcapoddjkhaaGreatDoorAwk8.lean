/-
  Chapter 8: the chapter's examples.
-/
import Derived.Test.YtgkjcapoddjkhaaGreatDoorEvQ
import Derived.Test.YtgkjcapoddjkhaaGreatDoorPlog
set_option linter.unusedSimpArgs false
set_option linter.unusedVariables false
namespace Go.Proofs.YtgkjcapoddjkhaaGreatDoor
open Go.RowKit
set_option maxRecDepth 100000
set_option maxHeartbeats 4000000
def exA : List UInt8 := [84, 79, 83, 83, 32, 50, 32, 70, 73, 69, 76, 68]
def exB : List UInt8 := [66, 79, 87, 76, 32, 49, 50]
def exT : List UInt8 := [82, 69, 86, 73, 69, 87, 32, 49, 32, 76, 79, 83, 84]
def evA : Ev := ⟨1, 2, 0, 0, false, 0, 0, zeroD⟩
def evT : Ev := ⟨14, 1, 0, 0, false, 0, 0, zeroD⟩
theorem exA_is : parS exA = (evA, 0) := by decide +kernel
theorem exB_is : parS exB = (zeroE, 4) := by decide +kernel
theorem exT_is : TxtE evT = (exT, 0) := by decide +kernel
theorem par_txt {e : Ev} (hc : chkE e = 0) (hs : 0 ≤ e.ball.src) (hh : 0 ≤ e.ball.how) : parS (txtE e) = (e, 0) := by
  have hok := okE_of hc
  unfold parS
  rw [split_txt hok hh, (guess_words hok hs hh).1]
  unfold parE
  dsimp only
  rw [if_pos ⟨hc, rfl⟩]
theorem par_ok {l : List UInt8} {X : Ev} {er : Int} (h : parS l = (X, er)) : (er = 0 → chkE X = 0 ∧ txtE X = l ∧ 0 ≤ X.ball.how ∧ 0 ≤ X.ball.src) ∧ (er ≠ 0 → X = zeroE) := by
  unfold parS parE at h
  split at h
  · injection h with h1 h2
    exact ⟨fun e => (by rw [← h2] at e; exact absurd e (by decide)), fun _ => h1.symm⟩
  · next g hg =>
    split at h
    · next hc =>
      injection h with h1 h2
      subst h1
      refine ⟨fun _ => ⟨hc.1, hc.2, ?_⟩, fun e => absurd h2.symm e⟩
      cases hsp : splitC 32 l with
      | nil => exact absurd hsp (splitC_ne 32 l)
      | cons w0 ws =>
        rw [hsp, guess_is] at hg
        unfold gsK at hg
        split at hg
        · cases hg
        · split at hg
          · cases hg
          · injection hg with hg
            rw [← hg]
            exact takeAll_ball _ _ _ _ ⟨Int.le_refl 0, Int.le_refl 0⟩
    · injection h with h1 h2
      exact ⟨fun e => (by rw [← h2] at e; exact absurd e (by decide)), fun _ => h1.symm⟩
theorem dg_eqf (n : Nat) (d d' : Dg) (w : World) : (Op.equalIn (n + 2) 50 (.agg #[.int .i64 d.line, .int .i64 d.col, .int .i64 d.code]) (.agg #[.int .i64 d'.line, .int .i64 d'.col, .int .i64 d'.code])).run Tryz.prog w = .ok (decide (d = d')) w := by
  rw [run_equalIn_agg _ _ _ _ _ (by kernel_rfl) (by kernel_rfl)]
  unfold Program.fieldsOf
  simp only [Tryz.underlying50]
  have h : decide (d = d') = ((d.line == d'.line) && ((d.col == d'.col) && ((d.code == d'.code) && true))) := by
    obtain ⟨a1, a2, a3⟩ := d
    obtain ⟨b1, b2, b3⟩ := d'
    rw [Bool.eq_iff_iff]
    simp [Dg.mk.injEq]
  rw [h]
  refine eqf_and (by decide) (by simp [Tryz.isAgg3]; rfl) (by simp [Tryz.isAgg3]; rfl) (run_equalIn_int _ _ _ _ _ _ _ Tryz.underlying3) ?_
  refine eqf_and (by decide) (by simp [Tryz.isAgg3]; rfl) (by simp [Tryz.isAgg3]; rfl) (run_equalIn_int _ _ _ _ _ _ _ Tryz.underlying3) ?_
  refine eqf_and (by decide) (by simp [Tryz.isAgg31]; rfl) (by simp [Tryz.isAgg31]; rfl) (run_equalIn_int _ _ _ _ _ _ _ Tryz.underlying31) ?_
  exact eqf_nil
theorem dg_eql (d d' : Dg) (w : World) : (binOp .eql 50 (.agg #[.int .i64 d.line, .int .i64 d.col, .int .i64 d.code]) (.agg #[.int .i64 d'.line, .int .i64 d'.col, .int .i64 d'.code])).run Tryz.prog w = .ok (.bool (decide (d = d'))) w := by
  rw [run_eql_struct, dg_eqf]
  rfl
theorem awake8_p (w : World) (hw : LibW w) : Calls Tryz.prog 9 #[] w fun e w' => e = .returned (.bool true) ∧ Below w.heap.size w w' := by
  have HL := Lib.hid hw
  clear hw
  have kq : ∀ w : World, (binOp .eql 29 (.agg #[.int .u8 1, .int .i64 2, .int .i64 0, .int .i64 0, .bool false, .int .i64 0, .int .i64 0, .int .u8 0, .int .u8 0, .int .i64 0, .int .i64 0, .int .i64 0, .bool false, .int .u8 0, .int .i64 0, .int .i64 0, .int .i64 0, .bool false, .int .i64 0]) (.agg #[.int .u8 1, .int .i64 2, .int .i64 0, .int .i64 0, .bool false, .int .i64 0, .int .i64 0, .int .u8 0, .int .u8 0, .int .i64 0, .int .i64 0, .int .i64 0, .bool false, .int .u8 0, .int .i64 0, .int .i64 0, .int .i64 0, .bool false, .int .i64 0])).run Tryz.prog w = .ok (.bool true) w := fun w => ev_eql evA evA w
  have kd : ∀ w : World, (binOp .eql 50 (.agg #[.int .i64 2, .int .i64 1, .int .i64 4]) (.agg #[.int .i64 2, .int .i64 1, .int .i64 4])).run Tryz.prog w = .ok (.bool true) w := fun w => dg_eql ⟨2, 1, 4⟩ ⟨2, 1, 4⟩ w
  go_enter Tryz.func9, Tryz.ntmps9
  go_wp2_with (fail)
  have hc1 := parse8_p exA (by decide) w HL.out
  rw [exA_is] at hc1
  refine hc1.mono ?_
  clear hc1
  rintro e w1 ⟨rfl, hb1⟩
  have HB1 := Lib.hid hb1
  clear hb1
  obtain ⟨W2, hW2⟩ : ∃ y, w1.alloc (.cells (evE evA).toArray 29) = y := ⟨_, rfl⟩
  have HB2 := Lib.hid (show Below w.heap.size w W2 by rw [← hW2]; exact cur_step1 HB1.out (cur_new w1 _))
  have HE2 := Lib.hid (show Blk W2 w1.heap.size 29 [.int .u8 1, .int .i64 2, .int .i64 0, .int .i64 0, .bool false, .int .i64 0, .int .i64 0, .int .u8 0, .int .u8 0, .int .i64 0, .int .i64 0, .int .i64 0, .bool false, .int .u8 0, .int .i64 0, .int .i64 0, .int .i64 0, .bool false, .int .i64 0] by rw [← hW2]; exact Blk.new w1 _ _)
  have S2 := Lib.hid hW2
  clear hW2
  go_wp2_with (refine wpList_storeNew rfl _ _ 29 rfl _ (evE evA).toArray evt_info (by rfl) (by rfl) rfl (evt_one _) ?_; rw [S2.out])
  have hc2 := parse8_p exB (by decide) W2 (HL.out.to HB2.out)
  rw [exB_is] at hc2
  refine hc2.mono ?_
  clear hc2
  rintro e w3 ⟨rfl, hb3⟩
  have HB3 := Lib.hid (cur_step1 HB2.out hb3)
  have HE3 := Lib.hid (HE2.out.to hb3)
  clear hb3
  obtain ⟨W4, hW4⟩ : ∃ y, w3.alloc (.cells (evE zeroE).toArray 29) = y := ⟨_, rfl⟩
  have HB4 := Lib.hid (show Below w.heap.size w W4 by rw [← hW4]; exact cur_step1 HB3.out (cur_new w3 _))
  have HE4 := Lib.hid (show Blk W4 w1.heap.size 29 [.int .u8 1, .int .i64 2, .int .i64 0, .int .i64 0, .bool false, .int .i64 0, .int .i64 0, .int .u8 0, .int .u8 0, .int .i64 0, .int .i64 0, .int .i64 0, .bool false, .int .u8 0, .int .i64 0, .int .i64 0, .int .i64 0, .bool false, .int .i64 0] by rw [← hW4]; exact HE3.out.to (cur_new w3 _))
  have S4 := Lib.hid hW4
  clear hW4
  go_wp2_with (refine wpList_storeNew rfl _ _ 29 rfl _ (evE zeroE).toArray evt_info (by rfl) (by rfl) rfl (evt_one _) ?_; rw [S4.out])
  have hc3 := text_p evT (by decide) W4 (HL.out.to HB4.out)
  rw [exT_is] at hc3
  refine hc3.mono ?_
  clear hc3
  rintro e w5 ⟨rfl, hb5⟩
  have HB5 := Lib.hid (cur_step1 HB4.out hb5)
  have HE5 := Lib.hid (HE4.out.to hb5)
  clear hb5
  obtain ⟨sT, hsT⟩ : ∃ y, sA exT = y := ⟨_, rfl⟩
  have gT : (sT.toList == [82, 69, 86, 73, 69, 87, 32, 49, 32, 76, 79, 83, 84]) = true := by rw [← hsT, sA_to]; decide
  dsimp only
  rw [hsT]
  clear hsT
  go_wp2_with (fail)
  have hc4 := parlog_p exLog (by decide) w5 (HL.out.to HB5.out)
  rw [exLog_is] at hc4
  refine hc4.mono ?_
  clear hc4
  rintro e w6 ⟨A, c, B, cb, rfl, _, hdg, hb6⟩
  have HB6 := Lib.hid (cur_step1 HB5.out hb6)
  have HE6 := Lib.hid (HE5.out.to hb6)
  obtain ⟨B2, cb2, e2, hrd, hz⟩ := OwnL.rd dgE_len hdg
  obtain ⟨b, off, rfl, hbl, hcl⟩ := hrd 0 ⟨2, 1, 4⟩ rfl
  obtain rfl : off = 0 := (hz b off rfl).2
  injection e2 with e21 _ e23
  subst e21 e23
  have d0 : w6.cell? ⟨b, 0, none⟩ = some (.int .i64 2) := by simpa using hcl 0 _ rfl
  have d1 : w6.cell? ⟨b, 1, none⟩ = some (.int .i64 1) := by simpa using hcl 1 _ rfl
  have d2 : w6.cell? ⟨b, 2, none⟩ = some (.int .i64 4) := by simpa using hcl 2 _ rfl
  clear hb6 hdg hrd hz hcl
  go_wp2_with (refine wpList_loadC rfl _ 29 rfl w1.heap.size 29 [.int .u8 1, .int .i64 2, .int .i64 0, .int .i64 0, .bool false, .int .i64 0, .int .i64 0, .int .u8 0, .int .u8 0, .int .i64 0, .int .i64 0, .int .i64 0, .bool false, .int .u8 0, .int .i64 0, .int .i64 0, .int .i64 0, .bool false, .int .i64 0] _ rfl (by rfl) (by rfl) (by rfl) HE6.out ?_)
  go_ret
  exact ⟨rfl, HB6.out⟩
end Go.Proofs.YtgkjcapoddjkhaaGreatDoor
