/-
  Chapter 8: Check of the reference.
-/
import Derived.Test.YtdbiihfoafoljaaGreatDoorUsR8
import Derived.Test.YtdbiihfoafoljaaGreatDoorWpCut
import Derived.Deep.CutBlock
import Derived.Deep.DeepCutAuto
import Derived.BigGuard
set_option linter.unusedSimpArgs false
set_option linter.unusedVariables false
namespace Go.Proofs.YtdbiihfoafoljaaGreatDoor
open Go.RowKit
set_option maxRecDepth 100000
set_option maxHeartbeats 8000000
/-- The first error, by what a kind uses. -/
def chkU (us up uo uy ur uv ub : Bool) (e : Ev) : Int :=
  if (((((((!us && e.side != 0) || (!up && e.player != 0)) || (!uo && e.other != 0)) || (!uy && e.yes)) || (!ur && e.runs != 0)) || (!uv && e.overs != 0)) || (!ub && decide (e.ball ≠ zeroD))) then 1
  else if (((((us && !btw e.side 1 2) || (up && !btw e.player 1 11)) || (uo && !btw e.other 1 11)) || (ur && !btw e.runs (loR e.kind) (hiR e.kind))) || (uv && !btw e.overs 0 90)) then 2
  else if ub then chkD e.ball else 0
theorem chr_g (e : Ev) (us up uo uy ur uv ub : Bool) (hu : ∀ w, Calls Tryz.prog 75 #[.int .u8 e.kind] w fun e' w' => e' = .returned (.tuple #[.agg #[.bool us, .bool up, .bool uo, .bool uy, .bool ur, .bool uv, .bool ub], .bool true]) ∧ Below w.heap.size w w') (w : World) : Calls Tryz.prog 50 #[evV e] w fun e' w' => e' = .returned (.int .i64 (chkU us up uo uy ur uv ub e)) ∧ Below w.heap.size w w' := by
  have HU := Lib.hid hu
  obtain ⟨R, hR⟩ : ∃ R, chkU us up uo uy ur uv ub e = R := ⟨_, rfl⟩
  rw [hR]
  have HR := Lib.hid hR
  obtain ⟨w1, hw1⟩ : ∃ y, w.alloc (.cells (evE e).toArray 38) = y := ⟨_, rfl⟩
  have HB1 := Lib.hid (show Below w.heap.size w w1 by rw [← hw1]; exact cur_new _ _)
  have HK1 := Lib.hid (show Blk w1 w.heap.size 38 (evE e) by rw [← hw1]; exact Blk.new w _ _)
  have SW1 := Lib.hid (show w.alloc (.cells #[.int .u8 e.kind, .int .i64 e.side, .int .i64 e.player, .int .i64 e.other, .bool e.yes, .int .i64 e.runs, .int .i64 e.overs, .int .u8 e.ball.ty, .int .u8 e.ball.src, .int .i64 e.ball.runs, .int .i64 e.ball.short, .int .i64 e.ball.bd, .bool e.ball.cr, .int .u8 e.ball.how, .int .i64 e.ball.vic, .int .i64 e.ball.fd, .int .i64 e.ball.sd, .bool e.ball.sub, .int .i64 e.ball.sec] 38) = w1 by rw [← hw1]; rfl)
  obtain ⟨b, hb⟩ : ∃ b, w.heap.size = b := ⟨_, rfl⟩
  rw [hb] at HK1
  have HBB := Lib.hid hb
  unfold evV
  have k0 : w1.cell? ⟨b, 0, none⟩ = some (.int .u8 e.kind) := HK1.out.cell 0
  clear hw1 hb hR hu
  go_enter Tryz.func50, Tryz.ntmps50
  go_wp2_with (rw [SW1.out, HBB.out])
  refine (HU.out w1).mono ?_
  rintro e' w2 ⟨rfl, hb2⟩
  obtain ⟨w3, hw3⟩ : ∃ y, w2.alloc (.cells #[.bool us, .bool up, .bool uo, .bool uy, .bool ur, .bool uv, .bool ub] 119) = y := ⟨_, rfl⟩
  have HB3 := Lib.hid (show Below w.heap.size w w3 by rw [← hw3]; exact cur_step1 (cur_step1 HB1.out hb2) (cur_new w2 _))
  have HK3 := Lib.hid (show Blk w3 b 38 (evE e) by rw [← hw3]; exact (HK1.out.to hb2).to (cur_new w2 _))
  have HU3 := Lib.hid (show Blk w3 w2.heap.size 119 [.bool us, .bool up, .bool uo, .bool uy, .bool ur, .bool uv, .bool ub] by rw [← hw3]; exact Blk.new w2 _ _)
  have S3 := Lib.hid hw3
  obtain ⟨u, hu⟩ : ∃ y, w2.heap.size = y := ⟨_, rfl⟩
  rw [hu] at HU3
  have HUU := Lib.hid hu
  clear hw3 hb2 k0 hu
  generalize Value.agg #[.int .u8 e.kind, .int .i64 e.side, .int .i64 e.player, .int .i64 e.other, .bool e.yes, .int .i64 e.runs, .int .i64 e.overs, .int .u8 e.ball.ty, .int .u8 e.ball.src, .int .i64 e.ball.runs, .int .i64 e.ball.short, .int .i64 e.ball.bd, .bool e.ball.cr, .int .u8 e.ball.how, .int .i64 e.ball.vic, .int .i64 e.ball.fd, .int .i64 e.ball.sd, .bool e.ball.sub, .int .i64 e.ball.sec] = av
  obtain ⟨kd, hkd⟩ : ∃ y, e.kind = y := ⟨_, rfl⟩
  have HKD := Lib.hid hkd
  rw [hkd]
  have d0 : w3.cell? ⟨b, 0, none⟩ = some (.int .u8 kd) := by rw [← hkd]; exact HK3.out.cell 0
  clear hkd
  have qs : w3.cell? ⟨u, 0, none⟩ = some (.bool us) := HU3.out.cell 0
  have qp : w3.cell? ⟨u, 1, none⟩ = some (.bool up) := HU3.out.cell 1
  have qo : w3.cell? ⟨u, 2, none⟩ = some (.bool uo) := HU3.out.cell 2
  have qy : w3.cell? ⟨u, 3, none⟩ = some (.bool uy) := HU3.out.cell 3
  have qr : w3.cell? ⟨u, 4, none⟩ = some (.bool ur) := HU3.out.cell 4
  have qv : w3.cell? ⟨u, 5, none⟩ = some (.bool uv) := HU3.out.cell 5
  have qb : w3.cell? ⟨u, 6, none⟩ = some (.bool ub) := HU3.out.cell 6
  have d1 : w3.cell? ⟨b, 1, none⟩ = some (.int .i64 e.side) := HK3.out.cell 1
  have d2 : w3.cell? ⟨b, 2, none⟩ = some (.int .i64 e.player) := HK3.out.cell 2
  have d3 : w3.cell? ⟨b, 3, none⟩ = some (.int .i64 e.other) := HK3.out.cell 3
  have d4 : w3.cell? ⟨b, 4, none⟩ = some (.bool e.yes) := HK3.out.cell 4
  have d5 : w3.cell? ⟨b, 5, none⟩ = some (.int .i64 e.runs) := HK3.out.cell 5
  have d6 : w3.cell? ⟨b, 6, none⟩ = some (.int .i64 e.overs) := HK3.out.cell 6
  have HDB := Lib.hid HK3.out.cell
  obtain ⟨ns, hns⟩ : ∃ y, (e.side != 0) = y := ⟨_, rfl⟩
  have HNs := Lib.hid hns
  clear hns
  obtain ⟨np, hnp⟩ : ∃ y, (e.player != 0) = y := ⟨_, rfl⟩
  have HNp := Lib.hid hnp
  clear hnp
  obtain ⟨no, hno⟩ : ∃ y, (e.other != 0) = y := ⟨_, rfl⟩
  have HNo := Lib.hid hno
  clear hno
  obtain ⟨ny, hny⟩ : ∃ y, e.yes = y := ⟨_, rfl⟩
  rw [hny] at d4
  have HNy := Lib.hid hny
  clear hny
  obtain ⟨nr, hnr⟩ : ∃ y, (e.runs != 0) = y := ⟨_, rfl⟩
  have HNr := Lib.hid hnr
  clear hnr
  obtain ⟨nv, hnv⟩ : ∃ y, (e.overs != 0) = y := ⟨_, rfl⟩
  have HNv := Lib.hid hnv
  clear hnv
  obtain ⟨nb, hnb⟩ : ∃ y, decide (e.ball ≠ zeroD) = y := ⟨_, rfl⟩
  have HNb := Lib.hid hnb
  clear hnb
  obtain ⟨es, hes⟩ : ∃ y, (!us && ns) = y := ⟨_, rfl⟩
  have HEs := Lib.hid hes
  clear hes
  obtain ⟨ep, hep⟩ : ∃ y, (es || (!up && np)) = y := ⟨_, rfl⟩
  have HEp := Lib.hid hep
  clear hep
  obtain ⟨eo, heo⟩ : ∃ y, (ep || (!uo && no)) = y := ⟨_, rfl⟩
  have HEo := Lib.hid heo
  clear heo
  obtain ⟨ey, hey⟩ : ∃ y, (eo || (!uy && ny)) = y := ⟨_, rfl⟩
  have HEy := Lib.hid hey
  clear hey
  obtain ⟨er, her⟩ : ∃ y, (ey || (!ur && nr)) = y := ⟨_, rfl⟩
  have HEr := Lib.hid her
  clear her
  obtain ⟨ev, hev⟩ : ∃ y, (er || (!uv && nv)) = y := ⟨_, rfl⟩
  have HEv := Lib.hid hev
  clear hev
  obtain ⟨eb, heb⟩ : ∃ y, (ev || (!ub && nb)) = y := ⟨_, rfl⟩
  have HEb := Lib.hid heb
  clear heb
  have HR1 := Lib.hid (show R = if eb then 1 else if (((((us && !btw e.side 1 2) || (up && !btw e.player 1 11)) || (uo && !btw e.other 1 11)) || (ur && !btw e.runs (loR kd) (hiR kd))) || (uv && !btw e.overs 0 90)) then 2 else if ub then chkD e.ball else 0 by
    rw [← HR.out]; unfold chkU
    rw [HKD.out, HNs.out, HNp.out, HNo.out, HNy.out, HNr.out, HNv.out, HNb.out, HEs.out, HEp.out, HEo.out, HEy.out, HEr.out, HEv.out, HEb.out])
  clear HR
  go_upto_region 4 with (rw [S3.out, HUU.out])
  generalize Value.tuple #[.agg #[.bool us, .bool up, .bool uo, .bool uy, .bool ur, .bool uv, .bool ub], .bool true] = t7
  generalize Value.agg #[.bool us, .bool up, .bool uo, .bool uy, .bool ur, .bool uv, .bool ub] = t11
  go_cut [82] (fun v wx => v = .bool eb ∧ w3 = wx)
  case first =>
    refine wp_region_lit ?_
    simp only [List.append_eq, List.cons_append, List.nil_append]
    refine wpList_cut_at 8 (fun a' w' => ∃ v x15 x16 x17 x18 x19 x20 x21, v = .bool es ∧ a' = ⟨#[av, .pointer (some ⟨b, 0, none⟩), .int .i64 0, .pointer (some ⟨u, 0, none⟩), .bool true, undef, undef, t7, .pointer (some ⟨b, 0, none⟩), .int .u8 kd, t7, t11, .bool true, .bool true, .bool false, x15, x16, x17, x18, x19, x20, x21, v, undef, undef, undef, undef, undef, undef, undef, undef, undef, undef, undef, undef, undef, undef, undef, undef, undef, undef, undef, undef, undef, undef, undef, undef, undef, undef, undef, undef, undef, undef, undef, undef, undef, undef, undef, undef, undef, undef, undef, undef, undef, undef, undef, undef, undef, undef, undef, undef, undef, undef, undef, undef, undef, undef, undef, undef, undef, undef, undef, undef, undef, undef, undef, undef, undef, undef, undef, undef, undef, undef, undef, undef, undef, undef, undef, undef, undef, undef, undef, undef, undef, undef, undef, undef, undef, undef, undef, undef, undef, undef, undef, undef, undef, undef, undef, undef, undef, undef, undef, undef, undef, undef, undef, undef, undef, undef, undef, undef, undef, undef, undef, undef, undef, undef, undef, undef, undef, undef, undef, undef, undef], []⟩ ∧ w3 = w') ?_ ?_
    · intro J hJ
      have HJ := Lib.hid hJ
      clear hJ
      simp only [List.take_succ_cons, List.take_zero]
      cases us with
      | true =>
        go_wp2_with (fail)
        exact HJ.out _ _ ⟨_, _, _, _, _, _, _, _, by rw [← HEs.out]; rfl, rfl, rfl⟩
      | false =>
        have g9 : (e.side != 0) = ns := HNs.out
        go_wp2_with (fail)
        exact HJ.out _ _ ⟨_, _, _, _, _, _, _, _, by rw [← HEs.out]; rfl, rfl, rfl⟩
    rintro _ _ ⟨v, x15, x16, x17, x18, x19, x20, x21, rfl, rfl, rfl⟩
    simp only [List.drop_succ_cons, List.drop_zero]
    refine wpList_cut_at 10 (fun a' w' => ∃ v x22 x23 x24 x25 x26 x27 x28 x29 x30 x31, v = .bool ep ∧ a' = ⟨#[av, .pointer (some ⟨b, 0, none⟩), .int .i64 0, .pointer (some ⟨u, 0, none⟩), .bool true, undef, undef, t7, .pointer (some ⟨b, 0, none⟩), .int .u8 kd, t7, t11, .bool true, .bool true, .bool false, x15, x16, x17, x18, x19, x20, x21, x22, x23, x24, x25, x26, x27, x28, x29, x30, x31, v, undef, undef, undef, undef, undef, undef, undef, undef, undef, undef, undef, undef, undef, undef, undef, undef, undef, undef, undef, undef, undef, undef, undef, undef, undef, undef, undef, undef, undef, undef, undef, undef, undef, undef, undef, undef, undef, undef, undef, undef, undef, undef, undef, undef, undef, undef, undef, undef, undef, undef, undef, undef, undef, undef, undef, undef, undef, undef, undef, undef, undef, undef, undef, undef, undef, undef, undef, undef, undef, undef, undef, undef, undef, undef, undef, undef, undef, undef, undef, undef, undef, undef, undef, undef, undef, undef, undef, undef, undef, undef, undef, undef, undef, undef, undef, undef, undef, undef, undef, undef, undef, undef, undef, undef, undef, undef, undef, undef, undef, undef, undef], []⟩ ∧ w3 = w') ?_ ?_
    · intro J hJ
      have HJ := Lib.hid hJ
      clear hJ
      simp only [List.take_succ_cons, List.take_zero]
      cases es with
      | true =>
        go_wp2_with (fail)
        all_goals exact HJ.out _ _ ⟨_, _, _, _, _, _, _, _, _, _, _, by rw [← HEp.out]; rfl, rfl, rfl⟩
      | false =>
        cases up with
        | true =>
          go_wp2_with (fail)
          exact HJ.out _ _ ⟨_, _, _, _, _, _, _, _, _, _, _, by rw [← HEp.out]; rfl, rfl, rfl⟩
        | false =>
          have g9 : (e.player != 0) = np := HNp.out
          go_wp2_with (fail)
          exact HJ.out _ _ ⟨_, _, _, _, _, _, _, _, _, _, _, by rw [← HEp.out]; rfl, rfl, rfl⟩
    rintro _ _ ⟨v, x22, x23, x24, x25, x26, x27, x28, x29, x30, x31, rfl, rfl, rfl⟩
    simp only [List.drop_succ_cons, List.drop_zero]
    refine wpList_cut_at 10 (fun a' w' => ∃ v x32 x33 x34 x35 x36 x37 x38 x39 x40 x41, v = .bool eo ∧ a' = ⟨#[av, .pointer (some ⟨b, 0, none⟩), .int .i64 0, .pointer (some ⟨u, 0, none⟩), .bool true, undef, undef, t7, .pointer (some ⟨b, 0, none⟩), .int .u8 kd, t7, t11, .bool true, .bool true, .bool false, x15, x16, x17, x18, x19, x20, x21, x22, x23, x24, x25, x26, x27, x28, x29, x30, x31, x32, x33, x34, x35, x36, x37, x38, x39, x40, x41, v, undef, undef, undef, undef, undef, undef, undef, undef, undef, undef, undef, undef, undef, undef, undef, undef, undef, undef, undef, undef, undef, undef, undef, undef, undef, undef, undef, undef, undef, undef, undef, undef, undef, undef, undef, undef, undef, undef, undef, undef, undef, undef, undef, undef, undef, undef, undef, undef, undef, undef, undef, undef, undef, undef, undef, undef, undef, undef, undef, undef, undef, undef, undef, undef, undef, undef, undef, undef, undef, undef, undef, undef, undef, undef, undef, undef, undef, undef, undef, undef, undef, undef, undef, undef, undef, undef, undef, undef, undef, undef, undef, undef, undef, undef, undef, undef, undef, undef, undef, undef, undef], []⟩ ∧ w3 = w') ?_ ?_
    · intro J hJ
      have HJ := Lib.hid hJ
      clear hJ
      simp only [List.take_succ_cons, List.take_zero]
      cases ep with
      | true =>
        go_wp2_with (fail)
        all_goals exact HJ.out _ _ ⟨_, _, _, _, _, _, _, _, _, _, _, by rw [← HEo.out]; rfl, rfl, rfl⟩
      | false =>
        cases uo with
        | true =>
          go_wp2_with (fail)
          exact HJ.out _ _ ⟨_, _, _, _, _, _, _, _, _, _, _, by rw [← HEo.out]; rfl, rfl, rfl⟩
        | false =>
          have g9 : (e.other != 0) = no := HNo.out
          go_wp2_with (fail)
          exact HJ.out _ _ ⟨_, _, _, _, _, _, _, _, _, _, _, by rw [← HEo.out]; rfl, rfl, rfl⟩
    rintro _ _ ⟨v, x32, x33, x34, x35, x36, x37, x38, x39, x40, x41, rfl, rfl, rfl⟩
    simp only [List.drop_succ_cons, List.drop_zero]
    refine wpList_cut_at 9 (fun a' w' => ∃ v x42 x43 x44 x45 x46 x47 x48 x49 x50, v = .bool ey ∧ a' = ⟨#[av, .pointer (some ⟨b, 0, none⟩), .int .i64 0, .pointer (some ⟨u, 0, none⟩), .bool true, undef, undef, t7, .pointer (some ⟨b, 0, none⟩), .int .u8 kd, t7, t11, .bool true, .bool true, .bool false, x15, x16, x17, x18, x19, x20, x21, x22, x23, x24, x25, x26, x27, x28, x29, x30, x31, x32, x33, x34, x35, x36, x37, x38, x39, x40, x41, x42, x43, x44, x45, x46, x47, x48, x49, x50, v, undef, undef, undef, undef, undef, undef, undef, undef, undef, undef, undef, undef, undef, undef, undef, undef, undef, undef, undef, undef, undef, undef, undef, undef, undef, undef, undef, undef, undef, undef, undef, undef, undef, undef, undef, undef, undef, undef, undef, undef, undef, undef, undef, undef, undef, undef, undef, undef, undef, undef, undef, undef, undef, undef, undef, undef, undef, undef, undef, undef, undef, undef, undef, undef, undef, undef, undef, undef, undef, undef, undef, undef, undef, undef, undef, undef, undef, undef, undef, undef, undef, undef, undef, undef, undef, undef, undef, undef, undef, undef, undef, undef], []⟩ ∧ w3 = w') ?_ ?_
    · intro J hJ
      have HJ := Lib.hid hJ
      clear hJ
      simp only [List.take_succ_cons, List.take_zero]
      cases eo with
      | true =>
        go_wp2_with (fail)
        all_goals exact HJ.out _ _ ⟨_, _, _, _, _, _, _, _, _, _, by rw [← HEy.out]; rfl, rfl, rfl⟩
      | false =>
        cases uy with
        | true =>
          go_wp2_with (fail)
          exact HJ.out _ _ ⟨_, _, _, _, _, _, _, _, _, _, by rw [← HEy.out]; rfl, rfl, rfl⟩
        | false =>
          go_wp2_with (fail)
          exact HJ.out _ _ ⟨_, _, _, _, _, _, _, _, _, _, by rw [← HEy.out]; rfl, rfl, rfl⟩
    rintro _ _ ⟨v, x42, x43, x44, x45, x46, x47, x48, x49, x50, rfl, rfl, rfl⟩
    simp only [List.drop_succ_cons, List.drop_zero]
    refine wpList_cut_at 10 (fun a' w' => ∃ v x51 x52 x53 x54 x55 x56 x57 x58 x59 x60, v = .bool er ∧ a' = ⟨#[av, .pointer (some ⟨b, 0, none⟩), .int .i64 0, .pointer (some ⟨u, 0, none⟩), .bool true, undef, undef, t7, .pointer (some ⟨b, 0, none⟩), .int .u8 kd, t7, t11, .bool true, .bool true, .bool false, x15, x16, x17, x18, x19, x20, x21, x22, x23, x24, x25, x26, x27, x28, x29, x30, x31, x32, x33, x34, x35, x36, x37, x38, x39, x40, x41, x42, x43, x44, x45, x46, x47, x48, x49, x50, x51, x52, x53, x54, x55, x56, x57, x58, x59, x60, v, undef, undef, undef, undef, undef, undef, undef, undef, undef, undef, undef, undef, undef, undef, undef, undef, undef, undef, undef, undef, undef, undef, undef, undef, undef, undef, undef, undef, undef, undef, undef, undef, undef, undef, undef, undef, undef, undef, undef, undef, undef, undef, undef, undef, undef, undef, undef, undef, undef, undef, undef, undef, undef, undef, undef, undef, undef, undef, undef, undef, undef, undef, undef, undef, undef, undef, undef, undef, undef, undef, undef, undef, undef, undef, undef, undef, undef, undef, undef, undef, undef, undef], []⟩ ∧ w3 = w') ?_ ?_
    · intro J hJ
      have HJ := Lib.hid hJ
      clear hJ
      simp only [List.take_succ_cons, List.take_zero]
      cases ey with
      | true =>
        go_wp2_with (fail)
        all_goals exact HJ.out _ _ ⟨_, _, _, _, _, _, _, _, _, _, _, by rw [← HEr.out]; rfl, rfl, rfl⟩
      | false =>
        cases ur with
        | true =>
          go_wp2_with (fail)
          exact HJ.out _ _ ⟨_, _, _, _, _, _, _, _, _, _, _, by rw [← HEr.out]; rfl, rfl, rfl⟩
        | false =>
          have g9 : (e.runs != 0) = nr := HNr.out
          go_wp2_with (fail)
          exact HJ.out _ _ ⟨_, _, _, _, _, _, _, _, _, _, _, by rw [← HEr.out]; rfl, rfl, rfl⟩
    rintro _ _ ⟨v, x51, x52, x53, x54, x55, x56, x57, x58, x59, x60, rfl, rfl, rfl⟩
    simp only [List.drop_succ_cons, List.drop_zero]
    refine wpList_cut_at 10 (fun a' w' => ∃ v x61 x62 x63 x64 x65 x66 x67 x68 x69 x70, v = .bool ev ∧ a' = ⟨#[av, .pointer (some ⟨b, 0, none⟩), .int .i64 0, .pointer (some ⟨u, 0, none⟩), .bool true, undef, undef, t7, .pointer (some ⟨b, 0, none⟩), .int .u8 kd, t7, t11, .bool true, .bool true, .bool false, x15, x16, x17, x18, x19, x20, x21, x22, x23, x24, x25, x26, x27, x28, x29, x30, x31, x32, x33, x34, x35, x36, x37, x38, x39, x40, x41, x42, x43, x44, x45, x46, x47, x48, x49, x50, x51, x52, x53, x54, x55, x56, x57, x58, x59, x60, x61, x62, x63, x64, x65, x66, x67, x68, x69, x70, v, undef, undef, undef, undef, undef, undef, undef, undef, undef, undef, undef, undef, undef, undef, undef, undef, undef, undef, undef, undef, undef, undef, undef, undef, undef, undef, undef, undef, undef, undef, undef, undef, undef, undef, undef, undef, undef, undef, undef, undef, undef, undef, undef, undef, undef, undef, undef, undef, undef, undef, undef, undef, undef, undef, undef, undef, undef, undef, undef, undef, undef, undef, undef, undef, undef, undef, undef, undef, undef, undef, undef, undef], []⟩ ∧ w3 = w') ?_ ?_
    · intro J hJ
      have HJ := Lib.hid hJ
      clear hJ
      simp only [List.take_succ_cons, List.take_zero]
      cases er with
      | true =>
        go_wp2_with (fail)
        all_goals exact HJ.out _ _ ⟨_, _, _, _, _, _, _, _, _, _, _, by rw [← HEv.out]; rfl, rfl, rfl⟩
      | false =>
        cases uv with
        | true =>
          go_wp2_with (fail)
          exact HJ.out _ _ ⟨_, _, _, _, _, _, _, _, _, _, _, by rw [← HEv.out]; rfl, rfl, rfl⟩
        | false =>
          have g9 : (e.overs != 0) = nv := HNv.out
          go_wp2_with (fail)
          exact HJ.out _ _ ⟨_, _, _, _, _, _, _, _, _, _, _, by rw [← HEv.out]; rfl, rfl, rfl⟩
    rintro _ _ ⟨v, x61, x62, x63, x64, x65, x66, x67, x68, x69, x70, rfl, rfl, rfl⟩
    simp only [List.drop_succ_cons, List.drop_zero]
    cases ev with
    | true =>
      go_wp2_with (fail)
      go_meet
      case rel => exact ⟨by rw [← HEb.out]; rfl, rfl⟩
    | false =>
      cases ub with
      | true =>
        go_wp2_with (fail)
        go_meet
        case rel => exact ⟨by rw [← HEb.out]; rfl, rfl⟩
      | false =>
        have hdb := HDB.out
        have d7 := hdb 7
        have d8 := hdb 8
        have d9 := hdb 9
        have d10 := hdb 10
        have d11 := hdb 11
        have d12 := hdb 12
        have d13 := hdb 13
        have d14 := hdb 14
        have d15 := hdb 15
        have d16 := hdb 16
        have d17 := hdb 17
        have d18 := hdb 18
        simp only [evE, delE, List.cons_append, List.nil_append, List.getElem?_cons_succ, List.getElem?_cons_zero] at d7 d8 d9 d10 d11 d12 d13 d14 d15 d16 d17 d18
        clear hdb
        have kq : ∀ w : World, (binOp .neq 36 (.agg #[.int .u8 e.ball.ty, .int .u8 e.ball.src, .int .i64 e.ball.runs, .int .i64 e.ball.short, .int .i64 e.ball.bd, .bool e.ball.cr, .int .u8 e.ball.how, .int .i64 e.ball.vic, .int .i64 e.ball.fd, .int .i64 e.ball.sd, .bool e.ball.sub, .int .i64 e.ball.sec]) (.agg #[.int .u8 0, .int .u8 0, .int .i64 0, .int .i64 0, .int .i64 0, .bool false, .int .u8 0, .int .i64 0, .int .i64 0, .int .i64 0, .bool false, .int .i64 0])).run Tryz.prog w = .ok (.bool nb) w := fun w => by rw [← HNb.out, decide_not]; exact del_neq e.ball zeroD w
        go_wp2_with (fail)
        go_meet
        case rel => exact ⟨by rw [← HEb.out]; rfl, rfl⟩
  case rest =>
  obtain ⟨rfl, rfl⟩ := hcut
  cases eb with
  | true =>
    have HRR := Lib.hid (show R = 1 by rw [HR1.out]; rfl)
    go_wp2_with (fail)
    go_ret
    rw [HRR.out]
    exact ⟨rfl, HB3.out⟩
  | false =>
    obtain ⟨lo, hlo⟩ : ∃ y, loR kd = y := ⟨_, rfl⟩
    obtain ⟨hi, hhi⟩ : ∃ y, hiR kd = y := ⟨_, rfl⟩
    have HLO := Lib.hid hlo
    have HHI := Lib.hid hhi
    clear hlo hhi
    obtain ⟨fs, hfs⟩ : ∃ y, btw e.side 1 2 = y := ⟨_, rfl⟩
    have HFs := Lib.hid hfs
    obtain ⟨fp, hfp⟩ : ∃ y, btw e.player 1 11 = y := ⟨_, rfl⟩
    have HFp := Lib.hid hfp
    obtain ⟨fo, hfo⟩ : ∃ y, btw e.other 1 11 = y := ⟨_, rfl⟩
    have HFo := Lib.hid hfo
    obtain ⟨fr, hfr⟩ : ∃ y, btw e.runs lo hi = y := ⟨_, rfl⟩
    have HFr := Lib.hid hfr
    obtain ⟨fv, hfv⟩ : ∃ y, btw e.overs 0 90 = y := ⟨_, rfl⟩
    have HFv := Lib.hid hfv
    clear hfs hfp hfo hfr hfv
    obtain ⟨gs, hgs⟩ : ∃ y, (us && !fs) = y := ⟨_, rfl⟩
    have HGs := Lib.hid hgs
    obtain ⟨gp, hgp⟩ : ∃ y, (gs || (up && !fp)) = y := ⟨_, rfl⟩
    have HGp := Lib.hid hgp
    obtain ⟨go, hgo⟩ : ∃ y, (gp || (uo && !fo)) = y := ⟨_, rfl⟩
    have HGo := Lib.hid hgo
    obtain ⟨gr, hgr⟩ : ∃ y, (go || (ur && !fr)) = y := ⟨_, rfl⟩
    have HGr := Lib.hid hgr
    obtain ⟨gv, hgv⟩ : ∃ y, (gr || (uv && !fv)) = y := ⟨_, rfl⟩
    have HGv := Lib.hid hgv
    have HR2 := Lib.hid (show R = if gv then 2 else if ub then chkD e.ball else 0 by
      rw [HR1.out, HLO.out, HHI.out, HFs.out, HFp.out, HFo.out, HFr.out, HFv.out, hgs, hgp, hgo, hgr, hgv]; rfl)
    clear hgs hgp hgo hgr hgv HR1
    go_wp2_with (fail)
    refine (runs_r _ _).mono ?_
    rintro e' w9 ⟨rfl, rfl⟩
    rw [HLO.out, HHI.out]
    go_upto_region 7 with (fail)
    go_cut [138] (fun v wx => v = .bool gv ∧ w3 = wx)
    case first =>
      refine wp_region_lit ?_
      try simp only [List.append_eq, List.cons_append, List.nil_append]
      refine wpList_cut_at 8 (fun a' w' => ∃ v x89 x90 x91 x92 x93 x94 x95, v = .bool gs ∧ a' = ⟨#[av, .pointer (some ⟨b, 0, none⟩), .int .i64 0, .pointer (some ⟨u, 0, none⟩), .bool true, .int .i64 lo, .int .i64 hi, u7, u8, u9, u10, u11, u12, u13, u14, u15, u16, u17, u18, u19, u20, u21, u22, u23, u24, u25, u26, u27, u28, u29, u30, u31, u32, u33, u34, u35, u36, u37, u38, u39, u40, u41, u42, u43, u44, u45, u46, u47, u48, u49, u50, u51, u52, u53, u54, u55, u56, u57, u58, u59, u60, u61, u62, u63, u64, u65, u66, u67, u68, u69, u70, u71, u72, u73, u74, u75, u76, u77, u78, u79, u80, u81, .bool false, .tuple #[.int .i64 lo, .int .i64 hi], .pointer (some ⟨b, 0, none⟩), .int .u8 kd, .tuple #[.int .i64 lo, .int .i64 hi], .int .i64 lo, .int .i64 hi, x89, x90, x91, x92, x93, x94, x95, v, u97, u98, u99, u100, u101, u102, u103, u104, u105, u106, u107, u108, u109, u110, u111, u112, u113, u114, u115, u116, u117, u118, u119, u120, u121, u122, u123, u124, u125, u126, u127, u128, u129, u130, u131, u132, u133, u134, u135, u136, u137, u138, u139, u140, u141, u142, u143], []⟩ ∧ w3 = w') ?_ ?_
      · intro J hJ
        have HJ := Lib.hid hJ
        clear hJ
        simp only [List.take_succ_cons, List.take_zero]
        cases us with
        | true =>
          go_wp2_with (refine (in_r _ _ _ fs _ HFs.out).mono ?_; rintro e' w9 ⟨rfl, rfl⟩)
          exact HJ.out _ _ ⟨_, _, _, _, _, _, _, _, by rw [← HGs.out]; rfl, rfl, rfl⟩
        | false =>
          go_wp2_with (fail)
          exact HJ.out _ _ ⟨_, _, _, _, _, _, _, _, by rw [← HGs.out]; rfl, rfl, rfl⟩
      rintro _ _ ⟨v, x89, x90, x91, x92, x93, x94, x95, rfl, rfl, rfl⟩
      simp only [List.drop_succ_cons, List.drop_zero]
      refine wpList_cut_at 10 (fun a' w' => ∃ v x96 x97 x98 x99 x100 x101 x102 x103 x104 x105, v = .bool gp ∧ a' = ⟨#[av, .pointer (some ⟨b, 0, none⟩), .int .i64 0, .pointer (some ⟨u, 0, none⟩), .bool true, .int .i64 lo, .int .i64 hi, u7, u8, u9, u10, u11, u12, u13, u14, u15, u16, u17, u18, u19, u20, u21, u22, u23, u24, u25, u26, u27, u28, u29, u30, u31, u32, u33, u34, u35, u36, u37, u38, u39, u40, u41, u42, u43, u44, u45, u46, u47, u48, u49, u50, u51, u52, u53, u54, u55, u56, u57, u58, u59, u60, u61, u62, u63, u64, u65, u66, u67, u68, u69, u70, u71, u72, u73, u74, u75, u76, u77, u78, u79, u80, u81, .bool false, .tuple #[.int .i64 lo, .int .i64 hi], .pointer (some ⟨b, 0, none⟩), .int .u8 kd, .tuple #[.int .i64 lo, .int .i64 hi], .int .i64 lo, .int .i64 hi, x89, x90, x91, x92, x93, x94, x95, x96, x97, x98, x99, x100, x101, x102, x103, x104, x105, v, u107, u108, u109, u110, u111, u112, u113, u114, u115, u116, u117, u118, u119, u120, u121, u122, u123, u124, u125, u126, u127, u128, u129, u130, u131, u132, u133, u134, u135, u136, u137, u138, u139, u140, u141, u142, u143], []⟩ ∧ w3 = w') ?_ ?_
      · intro J hJ
        have HJ := Lib.hid hJ
        clear hJ
        simp only [List.take_succ_cons, List.take_zero]
        cases gs with
        | true =>
          go_wp2_with (fail)
          exact HJ.out _ _ ⟨_, _, _, _, _, _, _, _, _, _, _, by rw [← HGp.out]; rfl, rfl, rfl⟩
        | false =>
          cases up with
          | true =>
            go_wp2_with (refine (in_r _ _ _ fp _ HFp.out).mono ?_; rintro e' w9 ⟨rfl, rfl⟩)
            exact HJ.out _ _ ⟨_, _, _, _, _, _, _, _, _, _, _, by rw [← HGp.out]; rfl, rfl, rfl⟩
          | false =>
            go_wp2_with (fail)
            exact HJ.out _ _ ⟨_, _, _, _, _, _, _, _, _, _, _, by rw [← HGp.out]; rfl, rfl, rfl⟩
      rintro _ _ ⟨v, x96, x97, x98, x99, x100, x101, x102, x103, x104, x105, rfl, rfl, rfl⟩
      simp only [List.drop_succ_cons, List.drop_zero]
      refine wpList_cut_at 10 (fun a' w' => ∃ v x106 x107 x108 x109 x110 x111 x112 x113 x114 x115, v = .bool go ∧ a' = ⟨#[av, .pointer (some ⟨b, 0, none⟩), .int .i64 0, .pointer (some ⟨u, 0, none⟩), .bool true, .int .i64 lo, .int .i64 hi, u7, u8, u9, u10, u11, u12, u13, u14, u15, u16, u17, u18, u19, u20, u21, u22, u23, u24, u25, u26, u27, u28, u29, u30, u31, u32, u33, u34, u35, u36, u37, u38, u39, u40, u41, u42, u43, u44, u45, u46, u47, u48, u49, u50, u51, u52, u53, u54, u55, u56, u57, u58, u59, u60, u61, u62, u63, u64, u65, u66, u67, u68, u69, u70, u71, u72, u73, u74, u75, u76, u77, u78, u79, u80, u81, .bool false, .tuple #[.int .i64 lo, .int .i64 hi], .pointer (some ⟨b, 0, none⟩), .int .u8 kd, .tuple #[.int .i64 lo, .int .i64 hi], .int .i64 lo, .int .i64 hi, x89, x90, x91, x92, x93, x94, x95, x96, x97, x98, x99, x100, x101, x102, x103, x104, x105, x106, x107, x108, x109, x110, x111, x112, x113, x114, x115, v, u117, u118, u119, u120, u121, u122, u123, u124, u125, u126, u127, u128, u129, u130, u131, u132, u133, u134, u135, u136, u137, u138, u139, u140, u141, u142, u143], []⟩ ∧ w3 = w') ?_ ?_
      · intro J hJ
        have HJ := Lib.hid hJ
        clear hJ
        simp only [List.take_succ_cons, List.take_zero]
        cases gp with
        | true =>
          go_wp2_with (fail)
          exact HJ.out _ _ ⟨_, _, _, _, _, _, _, _, _, _, _, by rw [← HGo.out]; rfl, rfl, rfl⟩
        | false =>
          cases uo with
          | true =>
            go_wp2_with (refine (in_r _ _ _ fo _ HFo.out).mono ?_; rintro e' w9 ⟨rfl, rfl⟩)
            exact HJ.out _ _ ⟨_, _, _, _, _, _, _, _, _, _, _, by rw [← HGo.out]; rfl, rfl, rfl⟩
          | false =>
            go_wp2_with (fail)
            exact HJ.out _ _ ⟨_, _, _, _, _, _, _, _, _, _, _, by rw [← HGo.out]; rfl, rfl, rfl⟩
      rintro _ _ ⟨v, x106, x107, x108, x109, x110, x111, x112, x113, x114, x115, rfl, rfl, rfl⟩
      simp only [List.drop_succ_cons, List.drop_zero]
      refine wpList_cut_at 12 (fun a' w' => ∃ v x116 x117 x118 x119 x120 x121 x122 x123 x124 x125 x126 x127, v = .bool gr ∧ a' = ⟨#[av, .pointer (some ⟨b, 0, none⟩), .int .i64 0, .pointer (some ⟨u, 0, none⟩), .bool true, .int .i64 lo, .int .i64 hi, u7, u8, u9, u10, u11, u12, u13, u14, u15, u16, u17, u18, u19, u20, u21, u22, u23, u24, u25, u26, u27, u28, u29, u30, u31, u32, u33, u34, u35, u36, u37, u38, u39, u40, u41, u42, u43, u44, u45, u46, u47, u48, u49, u50, u51, u52, u53, u54, u55, u56, u57, u58, u59, u60, u61, u62, u63, u64, u65, u66, u67, u68, u69, u70, u71, u72, u73, u74, u75, u76, u77, u78, u79, u80, u81, .bool false, .tuple #[.int .i64 lo, .int .i64 hi], .pointer (some ⟨b, 0, none⟩), .int .u8 kd, .tuple #[.int .i64 lo, .int .i64 hi], .int .i64 lo, .int .i64 hi, x89, x90, x91, x92, x93, x94, x95, x96, x97, x98, x99, x100, x101, x102, x103, x104, x105, x106, x107, x108, x109, x110, x111, x112, x113, x114, x115, x116, x117, x118, x119, x120, x121, x122, x123, x124, x125, x126, x127, v, u129, u130, u131, u132, u133, u134, u135, u136, u137, u138, u139, u140, u141, u142, u143], []⟩ ∧ w3 = w') ?_ ?_
      · intro J hJ
        have HJ := Lib.hid hJ
        clear hJ
        simp only [List.take_succ_cons, List.take_zero]
        cases go with
        | true =>
          go_wp2_with (fail)
          exact HJ.out _ _ ⟨_, _, _, _, _, _, _, _, _, _, _, _, _, by rw [← HGr.out]; rfl, rfl, rfl⟩
        | false =>
          cases ur with
          | true =>
            go_wp2_with (refine (in_r _ _ _ fr _ HFr.out).mono ?_; rintro e' w9 ⟨rfl, rfl⟩)
            exact HJ.out _ _ ⟨_, _, _, _, _, _, _, _, _, _, _, _, _, by rw [← HGr.out]; rfl, rfl, rfl⟩
          | false =>
            go_wp2_with (fail)
            exact HJ.out _ _ ⟨_, _, _, _, _, _, _, _, _, _, _, _, _, by rw [← HGr.out]; rfl, rfl, rfl⟩
      rintro _ _ ⟨v, x116, x117, x118, x119, x120, x121, x122, x123, x124, x125, x126, x127, rfl, rfl, rfl⟩
      simp only [List.drop_succ_cons, List.drop_zero]
      cases gr with
      | true =>
        go_wp2_with (fail)
        go_meet
        case rel => exact ⟨by rw [← HGv.out]; rfl, rfl⟩
      | false =>
        cases uv with
        | true =>
          go_wp2_with (refine (in_r _ _ _ fv _ HFv.out).mono ?_; rintro e' w9 ⟨rfl, rfl⟩)
          go_meet
          case rel => exact ⟨by rw [← HGv.out]; rfl, rfl⟩
        | false =>
          go_wp2_with (fail)
          go_meet
          case rel => exact ⟨by rw [← HGv.out]; rfl, rfl⟩
    case rest =>
    obtain ⟨rfl, rfl⟩ := hcut
    cases gv with
    | true =>
      have HRR := Lib.hid (show R = 2 by rw [HR2.out]; rfl)
      go_wp2_with (fail)
      go_ret
      rw [HRR.out]
      exact ⟨rfl, HB3.out⟩
    | false =>
      cases ub with
      | true =>
        have HRR := Lib.hid (show R = chkD e.ball by rw [HR2.out]; rfl)
        have hdb := HDB.out
        have d7 := hdb 7
        have d8 := hdb 8
        have d9 := hdb 9
        have d10 := hdb 10
        have d11 := hdb 11
        have d12 := hdb 12
        have d13 := hdb 13
        have d14 := hdb 14
        have d15 := hdb 15
        have d16 := hdb 16
        have d17 := hdb 17
        have d18 := hdb 18
        simp only [evE, delE, List.cons_append, List.nil_append, List.getElem?_cons_succ, List.getElem?_cons_zero] at d7 d8 d9 d10 d11 d12 d13 d14 d15 d16 d17 d18
        clear hdb
        go_wp2_with (fail)
        refine (chk_r e.ball _).mono ?_
        rintro e' w9 ⟨rfl, hb9⟩
        have HB9 := Lib.hid (cur_step1 HB3.out hb9)
        clear hb9
        go_wp2_with (fail)
        go_ret
        rw [HRR.out]
        exact ⟨rfl, HB9.out⟩
      | false =>
        have HRR := Lib.hid (show R = 0 by rw [HR2.out]; rfl)
        go_wp2_with (fail)
        go_ret
        rw [HRR.out]
        exact ⟨rfl, HB3.out⟩
theorem uses_r (k : Int) (h : 1 ≤ k ∧ k ≤ 16) (w : World) : Calls Tryz.prog 75 #[.int .u8 k] w fun e w' => e = .returned (.tuple #[.agg #[.bool (usesB k 115), .bool (usesB k 112), .bool (usesB k 111), .bool (usesB k 121), .bool (usesB k 114), .bool (usesB k 118), .bool (usesB k 98)], .bool true]) ∧ Below w.heap.size w w' := by
  rcases (by omega : k = 1 ∨ k = 2 ∨ k = 3 ∨ k = 4 ∨ k = 5 ∨ k = 6 ∨ k = 7 ∨ k = 8 ∨ k = 9 ∨ k = 10 ∨ k = 11 ∨ k = 12 ∨ k = 13 ∨ k = 14 ∨ k = 15 ∨ k = 16) with rfl | rfl | rfl | rfl | rfl | rfl | rfl | rfl | rfl | rfl | rfl | rfl | rfl | rfl | rfl | rfl
  · exact uses_r1 w
  · exact uses_r2 w
  · exact uses_r3 w
  · exact uses_r4 w
  · exact uses_r5 w
  · exact uses_r6 w
  · exact uses_r7 w
  · exact uses_r8 w
  · exact uses_r9 w
  · exact uses_r10 w
  · exact uses_r11 w
  · exact uses_r12 w
  · exact uses_r13 w
  · exact uses_r14 w
  · exact uses_r15 w
  · exact uses_r16 w
theorem chkU_is (e : Ev) (h : 1 ≤ e.kind ∧ e.kind ≤ 16) : chkU (usesB e.kind 115) (usesB e.kind 112) (usesB e.kind 111) (usesB e.kind 121) (usesB e.kind 114) (usesB e.kind 118) (usesB e.kind 98) e = chkE e := by
  have h98 : usesB e.kind 98 = true ↔ e.kind = 4 := by
    rcases (by omega : e.kind = 1 ∨ e.kind = 2 ∨ e.kind = 3 ∨ e.kind = 4 ∨ e.kind = 5 ∨ e.kind = 6 ∨ e.kind = 7 ∨ e.kind = 8 ∨ e.kind = 9 ∨ e.kind = 10 ∨ e.kind = 11 ∨ e.kind = 12 ∨ e.kind = 13 ∨ e.kind = 14 ∨ e.kind = 15 ∨ e.kind = 16) with h | h | h | h | h | h | h | h | h | h | h | h | h | h | h | h <;> rw [h] <;> decide
  unfold chkU chkE
  have e0 : (decide (e.kind < 1) || decide (16 < e.kind)) = false := by
    rw [Bool.or_eq_false_iff, decide_eq_false_iff_not, decide_eq_false_iff_not]; omega
  rw [e0]
  have e1 : (allC.any fun c => nzF e c && !usesB e.kind c) = (((((((!usesB e.kind 115 && e.side != 0) || (!usesB e.kind 112 && e.player != 0)) || (!usesB e.kind 111 && e.other != 0)) || (!usesB e.kind 121 && e.yes)) || (!usesB e.kind 114 && e.runs != 0)) || (!usesB e.kind 118 && e.overs != 0)) || (!usesB e.kind 98 && decide (e.ball ≠ zeroD))) := by
    simp [allC, nzF, Bool.and_comm, Bool.or_assoc]
  have e2 : (allC.any fun c => !fitF e c && usesB e.kind c) = (((((usesB e.kind 115 && !btw e.side 1 2) || (usesB e.kind 112 && !btw e.player 1 11)) || (usesB e.kind 111 && !btw e.other 1 11)) || (usesB e.kind 114 && !btw e.runs (loR e.kind) (hiR e.kind))) || (usesB e.kind 118 && !btw e.overs 0 90)) := by
    simp [allC, fitF, Bool.and_comm, Bool.or_assoc]
  have e3 : (if usesB e.kind 98 = true then chkD e.ball else 0) = if e.kind = 4 then chkD e.ball else 0 := by
    by_cases h4 : e.kind = 4
    · rw [if_pos h4, if_pos (h98.2 h4)]
    · rw [if_neg h4, if_neg (fun h => h4 (h98.1 h))]
  rw [e1, e2, e3, if_neg Bool.false_ne_true]
theorem chre (e : Ev) (w : World) : Calls Tryz.prog 50 #[evV e] w fun e' w' => e' = .returned (.int .i64 (chkE e)) ∧ Below w.heap.size w w' := by
  by_cases h : 1 ≤ e.kind ∧ e.kind ≤ 16
  · rw [← chkU_is e h]
    exact chr_g e _ _ _ _ _ _ _ (uses_r e.kind h) w
  · have HR := Lib.hid (show chkE e = 3 by unfold chkE; rw [if_pos (by simp only [Bool.or_eq_true, decide_eq_true_eq]; omega)])
    obtain ⟨w1, hw1⟩ : ∃ y, w.alloc (.cells (evE e).toArray 38) = y := ⟨_, rfl⟩
    have HB1 := Lib.hid (show Below w.heap.size w w1 by rw [← hw1]; exact cur_new _ _)
    have HK1 := Lib.hid (show Blk w1 w.heap.size 38 (evE e) by rw [← hw1]; exact Blk.new w _ _)
    have SW1 := Lib.hid (show w.alloc (.cells #[.int .u8 e.kind, .int .i64 e.side, .int .i64 e.player, .int .i64 e.other, .bool e.yes, .int .i64 e.runs, .int .i64 e.overs, .int .u8 e.ball.ty, .int .u8 e.ball.src, .int .i64 e.ball.runs, .int .i64 e.ball.short, .int .i64 e.ball.bd, .bool e.ball.cr, .int .u8 e.ball.how, .int .i64 e.ball.vic, .int .i64 e.ball.fd, .int .i64 e.ball.sd, .bool e.ball.sub, .int .i64 e.ball.sec] 38) = w1 by rw [← hw1]; rfl)
    obtain ⟨b, hb⟩ : ∃ b, w.heap.size = b := ⟨_, rfl⟩
    rw [hb] at HK1
    have HBB := Lib.hid hb
    unfold evV
    have k0 : w1.cell? ⟨b, 0, none⟩ = some (.int .u8 e.kind) := HK1.out.cell 0
    have HH := Lib.hid (show e.kind < 1 ∨ 16 < e.kind by omega)
    clear hw1 hb h
    go_enter Tryz.func50, Tryz.ntmps50
    go_wp2_with (rw [SW1.out, HBB.out])
    refine (uses_r0 e.kind HH.out w1).mono ?_
    rintro e' w2 ⟨rfl, hb2⟩
    have HB2 := Lib.hid (cur_step1 (cur_step1 HB1.out hb2) (cur_new w2 (.cells #[.bool false, .bool false, .bool false, .bool false, .bool false, .bool false, .bool false] 119)))
    clear hb2
    go_wp2_with (fail)
    go_ret
    rw [HR.out]
    exact ⟨rfl, HB2.out⟩
end Go.Proofs.YtdbiihfoafoljaaGreatDoor
