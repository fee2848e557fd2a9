/-
  EventBack: the walk.
-/
import Derived.Test.YtgkjcapoddjkhaaGreatDoorAwk8
set_option linter.unusedSimpArgs false
set_option linter.unusedVariables false
namespace Go.Proofs.YtgkjcapoddjkhaaGreatDoor
open Go.RowKit
set_option maxRecDepth 100000
set_option maxHeartbeats 4000000
attribute [-simp] Tryz.isAgg29 Tryz.sizeOf29
theorem ev_load {W : World} {g N : Nat} {x : Ev} (hb : Blk W g 29 (evE x)) (hN : 19 = N) : Sem.run Tryz.prog (loadCellsFrom ⟨g, 0, none⟩ 0 N #[]) W = .ok (evE x).toArray W := run_loadCells_blk hb hN
theorem law_back (e : Ev) (p : ByteArray) (w : World) (hh : 0 ≤ e.ball.how) (hs : 0 ≤ e.ball.src) (hps : p.size ≤ 9223372036854775807) (hw : LibW w) :
    Calls Tryz.prog 5 #[evV e, .string p] w fun e' w' => e' = .returned (.bool true) ∧ Below w.heap.size w w' := by
  have HL := Lib.hid hw
  have HE := Lib.hid (And.intro hh hs)
  obtain ⟨W1, hW1⟩ : ∃ y, w.alloc (.cells (evE e).toArray 29) = y := ⟨_, rfl⟩
  have HB1 := Lib.hid (show Below w.heap.size w W1 by rw [← hW1]; exact cur_new _ _)
  have HK1 := Lib.hid (show Blk W1 w.heap.size 29 (evE e) by rw [← hW1]; exact Blk.new w _ _)
  have S1 := Lib.hid (show w.alloc (.cells #[.int .u8 e.kind, .int .i64 e.side, .int .i64 e.player, .int .i64 e.other, .bool e.yes, .int .i64 e.runs, .int .i64 e.overs, .int .u8 e.ball.ty, .int .u8 e.ball.src, .int .i64 e.ball.runs, .int .i64 e.ball.short, .int .i64 e.ball.bd, .bool e.ball.cr, .int .u8 e.ball.how, .int .i64 e.ball.vic, .int .i64 e.ball.fd, .int .i64 e.ball.sd, .bool e.ball.sub, .int .i64 e.ball.sec] 29) = W1 from hW1)
  obtain ⟨b, hb⟩ : ∃ b, w.heap.size = b := ⟨_, rfl⟩
  have HBB := Lib.hid hb
  rw [hb] at HK1
  obtain ⟨m, hm⟩ : ∃ m : Nat, min p.size 60 = m := ⟨_, rfl⟩
  have hm1 : m ≤ p.size := by omega
  have hm2 : m ≤ 60 := by omega
  have hmin : min (p.size : Int) 60 = (m : Nat) := by omega
  obtain ⟨q, hq⟩ : ∃ q, p.extract 0 m = q := ⟨_, rfl⟩
  have hqz : q.size ≤ 60 := by rw [← hq, ByteArray.size_extract]; omega
  have HQ := Lib.hid hq
  obtain ⟨ql, hql⟩ : ∃ ql, q.data.toList = ql := ⟨_, rfl⟩
  have HQL := Lib.hid (show sA ql = q by rw [← hql]; rfl)
  have HQN := Lib.hid (show ql.length ≤ 60 by rw [← hql, Array.length_toList]; exact hqz)
  clear hW1 hb hm hq hql hw hh hs
  unfold evV
  go_enter Tryz.func5, Tryz.ntmps5
  go_wp2_with (first | rw [S1.out, HBB.out])
  refine (awake8_p _ (HL.out.to HB1.out)).mono ?_
  rintro e' w2 ⟨rfl, hb2⟩
  have HB2 := Lib.hid (cur_step1 HB1.out hb2)
  have HK2 := Lib.hid (HK1.out.to hb2)
  clear hb2
  go_wp2_with (refine wpList_loadC rfl _ 29 rfl b 29 (evE e) _ rfl (by rfl) (by rfl) (by rfl) HK2.out ?_)
  refine (text_p e HE.out.1 _ (HL.out.to HB2.out)).mono ?_
  rintro e' w3 ⟨rfl, hb3⟩
  have HB3 := Lib.hid (cur_step1 HB2.out hb3)
  have HK3 := Lib.hid (HK2.out.to hb3)
  clear hb3
  generalize Value.agg #[.int .u8 e.kind, .int .i64 e.side, .int .i64 e.player, .int .i64 e.other, .bool e.yes, .int .i64 e.runs, .int .i64 e.overs, .int .u8 e.ball.ty, .int .u8 e.ball.src, .int .i64 e.ball.runs, .int .i64 e.ball.short, .int .i64 e.ball.bd, .bool e.ball.cr, .int .u8 e.ball.how, .int .i64 e.ball.vic, .int .i64 e.ball.fd, .int .i64 e.ball.sd, .bool e.ball.sub, .int .i64 e.ball.sec] = av
  by_cases hc : chkE e = 0
  · have HT := Lib.hid (show TxtE e = (txtE e, 0) by unfold TxtE; rw [if_neg (by simpa using hc)])
    have HC := Lib.hid hc
    have HTL := Lib.hid (show (txtE e).length ≤ 200 from txt_len (okE_of hc))
    have HPT := Lib.hid (par_txt hc HE.out.2 HE.out.1)
    clear hc
    rw [HT.out]
    dsimp only
    go_wp2_with (refine wpList_loadC rfl _ 29 rfl b 29 (evE e) _ rfl (by rfl) (by rfl) (by rfl) HK3.out ?_)
    refine (chke_p e _).mono ?_
    rw [HC.out]
    rintro e' w4 ⟨rfl, hb4⟩
    have HB4 := Lib.hid (cur_step1 HB3.out hb4)
    have HK4 := Lib.hid (HK3.out.to hb4)
    clear hb4
    go_wp2_with (fail)
    have hc5 := parse8_p (txtE e) (by have := HTL.out; omega) w4 (HL.out.to HB4.out)
    rw [HPT.out] at hc5
    refine hc5.mono ?_
    clear hc5
    rintro e' w5 ⟨rfl, hb5⟩
    have HB5 := Lib.hid (cur_step1 HB4.out hb5)
    have HK5 := Lib.hid (HK4.out.to hb5)
    clear hb5
    obtain ⟨W6, hW6⟩ : ∃ y, w5.alloc (.cells (evE e).toArray 29) = y := ⟨_, rfl⟩
    have HB6 := Lib.hid (show Below w.heap.size w W6 by rw [← hW6]; exact cur_step1 HB5.out (cur_new w5 _))
    have HX6 := Lib.hid (show Blk W6 w5.heap.size 29 (evE e) by rw [← hW6]; exact Blk.new w5 _ _)
    have HK6 := Lib.hid (show Blk W6 b 29 (evE e) by rw [← hW6]; exact HK5.out.to (cur_new w5 _))
    have S6 := Lib.hid hW6
    clear hW6
    obtain ⟨N, hN⟩ : ∃ N : Nat, 19 = N := ⟨_, rfl⟩
    have hA : ∀ w, Sem.run Tryz.prog (isAgg 29) w = .ok true w := fun w => Tryz.isAgg29 w
    have hZ : ∀ w, Sem.run Tryz.prog (sizeOf 29) w = .ok N w := fun w => by rw [← hN]; exact Tryz.sizeOf29 w
    have hl1 := ev_load HX6.out hN
    have hl2 := ev_load HK6.out hN
    have kn : ∀ w : World, (binOp .neq 29 (.agg (evE e).toArray) (.agg (evE e).toArray)).run Tryz.prog w = .ok (.bool false) w := fun w => by rw [ev_neq]; simp
    clear hN
    go_wp2_with (first | (refine wpList_storeNew rfl _ _ 29 rfl _ (evE e).toArray evt_info (by rfl) (by rfl) rfl (evt_one _) ?_; rw [S6.out]))
    clear hA hZ hl1 hl2 kn
    rw [HQ.out]
    have hc4 := parse8_p ql (by have := HQN.out; omega) W6 (HL.out.to HB6.out)
    rw [HQL.out] at hc4
    refine hc4.mono ?_
    clear hc4
    rintro e' w7 ⟨rfl, hb7⟩
    obtain ⟨P, hP⟩ : ∃ P, parS ql = P := ⟨_, rfl⟩
    rw [hP]
    obtain ⟨X, er⟩ := P
    have HOK := Lib.hid (par_ok hP)
    dsimp only
    have HB7 := Lib.hid (cur_step1 HB6.out hb7)
    clear hb7 hP
    obtain ⟨W8, hW8⟩ : ∃ y, w7.alloc (.cells (evE X).toArray 29) = y := ⟨_, rfl⟩
    have HB8 := Lib.hid (show Below w.heap.size w W8 by rw [← hW8]; exact cur_step1 HB7.out (cur_new w7 _))
    have HX8 := Lib.hid (show Blk W8 w7.heap.size 29 (evE X) by rw [← hW8]; exact Blk.new w7 _ _)
    have S8 := Lib.hid hW8
    clear hW8
    by_cases her : er = 0
    · obtain ⟨hx1, hx2, hx3, hx4⟩ := HOK.out.1 her
      have HT := Lib.hid (show TxtE X = (ql, 0) by unfold TxtE; rw [if_neg (by simpa using hx1), hx2])
      have HX3 := Lib.hid hx3
      subst her
      clear hx1 hx2 hx3 hx4
      go_wp2_with (first | (refine wpList_storeNew rfl _ _ 29 rfl _ (evE X).toArray evt_info (by rfl) (by rfl) rfl (evt_one _) ?_; rw [S8.out]) | (refine wpList_loadC rfl _ 29 rfl w7.heap.size 29 (evE X) _ rfl (by rfl) (by rfl) (by rfl) HX8.out ?_))
      refine (text_p X HX3.out W8 (HL.out.to HB8.out)).mono ?_
      rintro e' w9 ⟨rfl, hb9⟩
      rw [HT.out]
      dsimp only
      rw [HQL.out]
      have gq : (q.toList == q.toList) = true := by simp
      have HB9 := Lib.hid (cur_step1 HB8.out hb9)
      clear hb9
      go_wp2_with (fail)
      go_ret
      exact ⟨rfl, HB9.out⟩
    · have hx := HOK.out.2 her
      subst hx
      have ger : (er != 0) = true := by simpa using her
      have kq : ∀ w : World, (binOp .eql 29 (.agg #[.int .u8 0, .int .i64 0, .int .i64 0, .int .i64 0, .bool false, .int .i64 0, .int .i64 0, .int .u8 0, .int .u8 0, .int .i64 0, .int .i64 0, .int .i64 0, .bool false, .int .u8 0, .int .i64 0, .int .i64 0, .int .i64 0, .bool false, .int .i64 0]) (.agg #[.int .u8 0, .int .i64 0, .int .i64 0, .int .i64 0, .bool false, .int .i64 0, .int .i64 0, .int .u8 0, .int .u8 0, .int .i64 0, .int .i64 0, .int .i64 0, .bool false, .int .u8 0, .int .i64 0, .int .i64 0, .int .i64 0, .bool false, .int .i64 0])).run Tryz.prog w = .ok (.bool true) w := fun w => ev_eql zeroE zeroE w
      clear her
      go_wp2_with (first | (refine wpList_storeNew rfl _ _ 29 rfl _ (evE zeroE).toArray evt_info (by rfl) (by rfl) rfl (evt_one _) ?_; rw [S8.out]) | (refine wpList_loadC rfl _ 29 rfl w7.heap.size 29 [.int .u8 0, .int .i64 0, .int .i64 0, .int .i64 0, .bool false, .int .i64 0, .int .i64 0, .int .u8 0, .int .u8 0, .int .i64 0, .int .i64 0, .int .i64 0, .bool false, .int .u8 0, .int .i64 0, .int .i64 0, .int .i64 0, .bool false, .int .i64 0] _ rfl (by rfl) (by rfl) (by rfl) HX8.out ?_))
      go_ret
      exact ⟨rfl, HB8.out⟩
  · obtain ⟨v, hv⟩ : ∃ v, chkE e = v := ⟨_, rfl⟩
    have HT := Lib.hid (show TxtE e = ([], v) by unfold TxtE; rw [if_pos hc, hv])
    have HV := Lib.hid hv
    have gv : (v == 0) = false := by rw [← hv]; simpa using hc
    have gvv : (v != v) = false := by simp
    clear hc hv
    rw [HT.out]
    dsimp only
    go_wp2_with (refine wpList_loadC rfl _ 29 rfl b 29 (evE e) _ rfl (by rfl) (by rfl) (by rfl) HK3.out ?_)
    refine (chke_p e _).mono ?_
    rw [HV.out]
    rintro e' w4 ⟨rfl, hb4⟩
    have HB4 := Lib.hid (cur_step1 HB3.out hb4)
    clear hb4
    go_wp2_with (fail)
    rw [HQ.out]
    have hc4 := parse8_p ql (by have := HQN.out; omega) w4 (HL.out.to HB4.out)
    rw [HQL.out] at hc4
    refine hc4.mono ?_
    clear hc4
    rintro e' w7 ⟨rfl, hb7⟩
    obtain ⟨P, hP⟩ : ∃ P, parS ql = P := ⟨_, rfl⟩
    rw [hP]
    obtain ⟨X, er⟩ := P
    have HOK := Lib.hid (par_ok hP)
    dsimp only
    have HB7 := Lib.hid (cur_step1 HB4.out hb7)
    clear hb7 hP
    obtain ⟨W8, hW8⟩ : ∃ y, w7.alloc (.cells (evE X).toArray 29) = y := ⟨_, rfl⟩
    have HB8 := Lib.hid (show Below w.heap.size w W8 by rw [← hW8]; exact cur_step1 HB7.out (cur_new w7 _))
    have HX8 := Lib.hid (show Blk W8 w7.heap.size 29 (evE X) by rw [← hW8]; exact Blk.new w7 _ _)
    have S8 := Lib.hid hW8
    clear hW8
    by_cases her : er = 0
    · obtain ⟨hx1, hx2, hx3, hx4⟩ := HOK.out.1 her
      have HT := Lib.hid (show TxtE X = (ql, 0) by unfold TxtE; rw [if_neg (by simpa using hx1), hx2])
      have HX3 := Lib.hid hx3
      subst her
      clear hx1 hx2 hx3 hx4
      go_wp2_with (first | (refine wpList_storeNew rfl _ _ 29 rfl _ (evE X).toArray evt_info (by rfl) (by rfl) rfl (evt_one _) ?_; rw [S8.out]) | (refine wpList_loadC rfl _ 29 rfl w7.heap.size 29 (evE X) _ rfl (by rfl) (by rfl) (by rfl) HX8.out ?_))
      refine (text_p X HX3.out W8 (HL.out.to HB8.out)).mono ?_
      rintro e' w9 ⟨rfl, hb9⟩
      rw [HT.out]
      dsimp only
      rw [HQL.out]
      have gq : (q.toList == q.toList) = true := by simp
      have HB9 := Lib.hid (cur_step1 HB8.out hb9)
      clear hb9
      go_wp2_with (fail)
      go_ret
      exact ⟨rfl, HB9.out⟩
    · have hx := HOK.out.2 her
      subst hx
      have ger : (er != 0) = true := by simpa using her
      have kq : ∀ w : World, (binOp .eql 29 (.agg #[.int .u8 0, .int .i64 0, .int .i64 0, .int .i64 0, .bool false, .int .i64 0, .int .i64 0, .int .u8 0, .int .u8 0, .int .i64 0, .int .i64 0, .int .i64 0, .bool false, .int .u8 0, .int .i64 0, .int .i64 0, .int .i64 0, .bool false, .int .i64 0]) (.agg #[.int .u8 0, .int .i64 0, .int .i64 0, .int .i64 0, .bool false, .int .i64 0, .int .i64 0, .int .u8 0, .int .u8 0, .int .i64 0, .int .i64 0, .int .i64 0, .bool false, .int .u8 0, .int .i64 0, .int .i64 0, .int .i64 0, .bool false, .int .i64 0])).run Tryz.prog w = .ok (.bool true) w := fun w => ev_eql zeroE zeroE w
      clear her
      go_wp2_with (first | (refine wpList_storeNew rfl _ _ 29 rfl _ (evE zeroE).toArray evt_info (by rfl) (by rfl) rfl (evt_one _) ?_; rw [S8.out]) | (refine wpList_loadC rfl _ 29 rfl w7.heap.size 29 [.int .u8 0, .int .i64 0, .int .i64 0, .int .i64 0, .bool false, .int .i64 0, .int .i64 0, .int .u8 0, .int .u8 0, .int .i64 0, .int .i64 0, .int .i64 0, .bool false, .int .u8 0, .int .i64 0, .int .i64 0, .int .i64 0, .bool false, .int .i64 0] _ rfl (by rfl) (by rfl) (by rfl) HX8.out ?_))
      go_ret
      exact ⟨rfl, HB8.out⟩
end Go.Proofs.YtgkjcapoddjkhaaGreatDoor
