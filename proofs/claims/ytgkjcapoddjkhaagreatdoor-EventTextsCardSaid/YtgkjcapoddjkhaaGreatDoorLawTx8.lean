/-
  EventTexts: the walk.
-/
import Derived.Test.YtgkjcapoddjkhaaGreatDoorTxR8
import Derived.Test.YtgkjcapoddjkhaaGreatDoorAwk8
set_option linter.unusedSimpArgs false
set_option linter.unusedVariables false
namespace Go.Proofs.YtgkjcapoddjkhaaGreatDoor
open Go.RowKit
set_option maxRecDepth 100000
set_option maxHeartbeats 4000000
attribute [-simp] Tryz.isAgg29 Tryz.sizeOf29
theorem law_txt8 (e : Ev) (w : World) (hh : 0 ≤ e.ball.how) (hw : LibW w) : Calls Tryz.prog 3 #[evV e] w fun e' w' => e' = .returned (.bool true) ∧ Below w.heap.size w w' := by
  have HL := Lib.hid hw
  have HE := Lib.hid hh
  obtain ⟨W1, hW1⟩ : ∃ y, w.alloc (.cells (evE e).toArray 29) = y := ⟨_, rfl⟩
  have HB1 := Lib.hid (show Below w.heap.size w W1 by rw [← hW1]; exact cur_new _ _)
  have HK1 := Lib.hid (show Blk W1 w.heap.size 29 (evE e) by rw [← hW1]; exact Blk.new w _ _)
  have S1 := Lib.hid (show w.alloc (.cells #[.int .u8 e.kind, .int .i64 e.side, .int .i64 e.player, .int .i64 e.other, .bool e.yes, .int .i64 e.runs, .int .i64 e.overs, .int .u8 e.ball.ty, .int .u8 e.ball.src, .int .i64 e.ball.runs, .int .i64 e.ball.short, .int .i64 e.ball.bd, .bool e.ball.cr, .int .u8 e.ball.how, .int .i64 e.ball.vic, .int .i64 e.ball.fd, .int .i64 e.ball.sd, .bool e.ball.sub, .int .i64 e.ball.sec] 29) = W1 from hW1)
  obtain ⟨b, hb⟩ : ∃ b, w.heap.size = b := ⟨_, rfl⟩
  have HBB := Lib.hid hb
  rw [hb] at HK1
  clear hW1 hb hw hh
  unfold evV
  go_enter Tryz.func3, Tryz.ntmps3
  go_wp2_with (first | rw [S1.out, HBB.out])
  refine (awake8_p _ (HL.out.to HB1.out)).mono ?_
  rintro e' w2 ⟨rfl, hb2⟩
  have HB2 := Lib.hid (cur_step1 HB1.out hb2)
  have HK2 := Lib.hid (HK1.out.to hb2)
  clear hb2
  go_wp2_with (refine wpList_loadC rfl _ 29 rfl b 29 (evE e) _ rfl (by rfl) (by rfl) (by rfl) HK2.out ?_)
  refine (text_p e HE.out _ (HL.out.to HB2.out)).mono ?_
  rintro e' w3 ⟨rfl, hb3⟩
  have HB3 := Lib.hid (cur_step1 HB2.out hb3)
  have HK3 := Lib.hid (HK2.out.to hb3)
  clear hb3
  generalize Value.agg #[.int .u8 e.kind, .int .i64 e.side, .int .i64 e.player, .int .i64 e.other, .bool e.yes, .int .i64 e.runs, .int .i64 e.overs, .int .u8 e.ball.ty, .int .u8 e.ball.src, .int .i64 e.ball.runs, .int .i64 e.ball.short, .int .i64 e.ball.bd, .bool e.ball.cr, .int .u8 e.ball.how, .int .i64 e.ball.vic, .int .i64 e.ball.fd, .int .i64 e.ball.sd, .bool e.ball.sub, .int .i64 e.ball.sec] = av
  obtain ⟨P, hP⟩ : ∃ P, TxtE e = P := ⟨_, rfl⟩
  have HP := Lib.hid hP
  rw [hP]
  clear hP
  obtain ⟨pl, pe⟩ := P
  dsimp only
  obtain ⟨ps, hps⟩ : ∃ y, sA pl = y := ⟨_, rfl⟩
  rw [hps]
  have HPS := Lib.hid hps
  clear hps
  go_wp2_with (refine wpList_loadC rfl _ 29 rfl b 29 (evE e) _ rfl (by rfl) (by rfl) (by rfl) HK3.out ?_)
  refine (textr8 e HE.out _).mono ?_
  rintro e' w4 ⟨rfl, hb4⟩
  have HB4 := Lib.hid (cur_step1 HB3.out hb4)
  have HK4 := Lib.hid (HK3.out.to hb4)
  clear hb4
  rw [HP.out]
  dsimp only
  rw [HPS.out]
  obtain ⟨c, hc⟩ : ∃ c, chkE e = c := ⟨_, rfl⟩
  have HC := Lib.hid hc
  clear hc
  have gq : (ps.toList == ps.toList) = true := by simp
  have g1 : (c == c) = true := by simp
  have g2 : (pe == pe) = true := by simp
  go_upto_region 5 with (fail)
  obtain ⟨N, hN⟩ : ∃ N : Nat, 19 = N := ⟨_, rfl⟩
  have hA : ∀ w, Sem.run Tryz.prog (isAgg 29) w = .ok true w := fun w => Tryz.isAgg29 w
  have hZ : ∀ w, Sem.run Tryz.prog (sizeOf 29) w = .ok N w := fun w => by rw [← hN]; exact Tryz.sizeOf29 w
  have K3 : Keep w4 w4 [] := Keep.start (Below.refl _ _) (by simp)
  have hl : ∀ s : Wd w4 [], Sem.run Tryz.prog (loadCellsFrom ⟨b, 0, none⟩ 0 N #[]) s.w = .ok (evE e).toArray s.w := fun s => run_loadCells_blk (HK4.out.to s.h.1) hN
  have hex : ∀ s : Wd w4 [], ∃ s' : Wd w4 [], s.w = s'.w := fun s => ⟨s, rfl⟩
  haveI hne : Nonempty (Wd w4 []) := ⟨⟨_, K3⟩⟩
  clear hN
  refine wp_region_wd w4 [] (by kernel_rfl) (by kernel_rfl) K3.drew ?_
  repeat (go_big_quiet_step (((first | (go_at_call 12; refine (chke_p e _).mono ?_) | (go_at_call 13; refine (chre e _).mono ?_)); rw [HC.out]; rintro e' w5 ⟨rfl, hb5⟩; exact ⟨rfl, ⟨_, (Wd.h _).to hb5⟩, rfl⟩)))
  refine wpQuiet_nil ?_
  rintro w5 ⟨s5, hs5⟩
  have K5 : Keep w4 w5 [] := by rw [hs5]; exact s5.h
  clear hs5 s5 hex hne hl hA hZ
  have HB5 := Lib.hid (cur_step1 HB4.out K5.1)
  go_wp2_with (fail)
  go_ret
  exact ⟨rfl, HB5.out⟩
end Go.Proofs.YtgkjcapoddjkhaaGreatDoor
