/-
  Chapter 12: Ran, with any lists.
-/
import Derived.Test.YtjlmlafiojpjmaaCrC
import Derived.Deep.DeepCutAuto
import Derived.Deep.CutBlock
import Derived.BigGuard
set_option linter.unusedSimpArgs false
set_option linter.unusedVariables false
namespace Go.Proofs.Ytjlmlafiojpjmaa
open Go.RowKit
set_option maxRecDepth 100000
set_option maxHeartbeats 4000000
/-- A delivery. -/
structure Dl where
  ty : Int
  src : Int
  runs : Int
  short : Int
  bd : Int
  cr : Bool
  how : Int
  vic : Int
  fd : Int
  sd : Int
  sub : Bool
  sec : Int
def dlC (d : Dl) : List Value := [.int .u8 d.ty, .int .u8 d.src, .int .i64 d.runs, .int .i64 d.short, .int .i64 d.bd, .bool d.cr, .int .u8 d.how, .int .i64 d.vic, .int .i64 d.fd, .int .i64 d.sd, .bool d.sub, .int .i64 d.sec]
def outS (I : Inn) (d : Dl) : Int := if d.how = 0 then 0 else if d.vic = 1 ∧ I.st ≠ 0 then 1 else if d.vic = 2 ∧ I.ot ≠ 0 then 2 else 0
def plS (I : Inn) (d : Dl) : Int := if outS I d = 1 then I.st else if outS I d = 2 then I.ot else 0
def swS (d : Dl) : Bool := (d.runs.tmod 2 != 0) != d.cr
def swapJ (I : Inn) (sw : Bool) : Inn := if sw = true then { I with st := I.ot, ot := I.st } else I
def vacJ (J : Inn) (out : Int) (sw : Bool) : Inn := if ((out == 1) != sw) = true then { J with st := 0 } else { J with ot := 0 }
def ranS (I : Inn) (d : Dl) : Inn := if outS I d = 0 then swapJ I (swS d) else dismissS (vacJ (swapJ I (swS d)) (outS I d) (swS d)) (plS I d)
theorem outS_cases (I : Inn) (d : Dl) : outS I d = 0 ∨ outS I d = 1 ∨ outS I d = 2 := by
  unfold outS
  split
  · exact .inl rfl
  · split
    · exact .inr (.inl rfl)
    · split
      · exact .inr (.inr rfl)
      · exact .inl rfl
theorem entry3 (w : World) (c1 c2 c3 : List Value) (e1 e2 e3 : TypeId) : Blk (((w.alloc (.cells c1.toArray e1)).alloc (.cells c2.toArray e2)).alloc (.cells c3.toArray e3)) w.heap.size e1 c1 ∧ Blk (((w.alloc (.cells c1.toArray e1)).alloc (.cells c2.toArray e2)).alloc (.cells c3.toArray e3)) (w.heap.size + 1) e2 c2 ∧
    Blk (((w.alloc (.cells c1.toArray e1)).alloc (.cells c2.toArray e2)).alloc (.cells c3.toArray e3)) (w.heap.size + 1 + 1) e3 c3 ∧ Below w.heap.size w (((w.alloc (.cells c1.toArray e1)).alloc (.cells c2.toArray e2)).alloc (.cells c3.toArray e3)) := by
  have h2 := entry2 w c1 c2 e1 e2
  exact ⟨h2.1.to (cur_new _ _), h2.2.1.to (cur_new _ _), three_new w _ _ _, cur_step1 h2.2.2 (cur_new _ _)⟩
theorem vacJ_few {I : Inn} (h : I.Few) (out : Int) (sw : Bool) : (vacJ (swapJ I sw) out sw).Few := by
  unfold vacJ swapJ
  split <;> split <;> exact ⟨h.b, h.bo, h.be, h.bd, h.sb⟩
theorem ran_p (I : Inn) (V : Ls) (d : Dl) (w : World) (hl : I.Few) (hV : InnR w V I) :
    Calls Try.prog 9 #[.agg (I.cells V).toArray, .agg (dlC d).toArray] w fun e w' => ∃ U, e = .returned (.agg (((ranS I d)).cells U).toArray) ∧ InnO w' w.heap.size U ((ranS I d)) ∧ Below w.heap.size w w' := by
  have HL := Lib.hid hl
  have HV := Lib.hid hV
  clear hl hV
  go_enter Try.func9, Try.ntmps9
  go_wp2_with (first
    | (refine wpList_load_row rfl 32 _ rfl w.heap.size (by rfl) 32 (I.cells V).toArray (0, 0) _ (((Blk.new w _ _).to (cur_new _ _)).to (cur_new _ _)) Try.underlying32 rfl inn_info ?_))
  obtain ⟨hin, hd, hre, hb0⟩ := entry3 w (I.cells V) (dlC d) [.int .i64 0, .int .i64 0, .int .i64 0, .int .i64 0, .int .i64 0, .int .i64 0, .int .i64 0, .int .i64 0, .int .i64 0, .int .i64 0, .int .i64 0, .int .i64 0, .int .i64 0, .int .i64 0, .slice none 0 0, .int .i64 0, .slice none 0 0, .slice none 0 0, .bool false, .slice none 0 0, .bool false, .int .i64 0, .int .i64 0, .int .i64 0, .slice none 0 0, .int .i64 0, .int .i64 0, .int .u8 0] 32 42 32
  generalize ((w.alloc (Obj.cells (I.cells V).toArray 32)).alloc (Obj.cells (dlC d).toArray 42)).alloc (Obj.cells [.int .i64 0, .int .i64 0, .int .i64 0, .int .i64 0, .int .i64 0, .int .i64 0, .int .i64 0, .int .i64 0, .int .i64 0, .int .i64 0, .int .i64 0, .int .i64 0, .int .i64 0, .int .i64 0, .slice none 0 0, .int .i64 0, .slice none 0 0, .slice none 0 0, .bool false, .slice none 0 0, .bool false, .int .i64 0, .int .i64 0, .int .i64 0, .slice none 0 0, .int .i64 0, .int .i64 0, .int .u8 0].toArray 32) = w0 at hin hd hre hb0 ⊢
  refine (own_f I V w0 HL.out (HV.out.to hb0)).mono ?_
  rintro e w1 ⟨U, rfl, ho, hb1⟩
  have HC := Lib.hid (Cs.start hin hre hb0 (by omega) (Nat.le_refl _) (by omega) ho hb1)
  have HON := Lib.hid ho.ones
  have HD := Lib.hid ((hd.to hb1).to (cur_new w1 (.cells (I.cells U).toArray 32)))
  clear hin hd hre hb0 ho hb1
  obtain ⟨w2, hw2⟩ : ∃ y, w1.alloc (.cells (I.cells U).toArray 32) = y := ⟨_, rfl⟩
  rw [hw2] at HC HD
  have S2 := Lib.hid hw2
  clear hw2
  go_upto_region 2 with (refine wpList_storeNew rfl _ _ 32 rfl _ (I.cells U).toArray inn_info (by rfl) (by rfl) rfl (Inn.one _ HON.out) ?_; rw [S2.out])
  obtain ⟨G, hG⟩ : ∃ y, w1.heap.size = y := ⟨_, rfl⟩
  rw [hG] at HC ⊢
  clear S2 hG
  have c6 : w2.cell? ⟨w.heap.size + 1, 6, none⟩ = some (.int .u8 d.how) := HD.out.cell 6
  have c7 : w2.cell? ⟨w.heap.size + 1, 7, none⟩ = some (.int .i64 d.vic) := HD.out.cell 7
  have c12 := HC.out.ist
  have c13 := HC.out.iot
  have HOE := Lib.hid (show outS I d = if d.how = 0 then 0 else if d.vic = 1 ∧ I.st ≠ 0 then 1 else if d.vic = 2 ∧ I.ot ≠ 0 then 2 else 0 from rfl)
  have HPE := Lib.hid (show plS I d = if outS I d = 1 then I.st else if outS I d = 2 then I.ot else 0 from rfl)
  obtain ⟨how, hhow⟩ : ∃ y, d.how = y := ⟨_, rfl⟩
  obtain ⟨vic, hvic⟩ : ∃ y, d.vic = y := ⟨_, rfl⟩
  obtain ⟨s0, hs0⟩ : ∃ y, I.st = y := ⟨_, rfl⟩
  obtain ⟨o0, ho0⟩ : ∃ y, I.ot = y := ⟨_, rfl⟩
  rw [hhow] at c6 HOE
  rw [hvic] at c7 HOE
  rw [hs0] at c12 HOE HPE
  rw [ho0] at c13 HOE HPE
  obtain ⟨ou, hou⟩ : ∃ y, outS I d = y := ⟨_, rfl⟩
  obtain ⟨pl, hpl⟩ : ∃ y, plS I d = y := ⟨_, rfl⟩
  rw [hou] at HOE HPE
  rw [hpl] at HPE
  have HOU := Lib.hid hou
  have HPL := Lib.hid hpl
  clear hhow hvic hs0 ho0 hou hpl
  go_upto_if 13 with (fail)
  go_cut [6, 7] from 13 to 35 (fun o p wx => o = .int .i64 ou ∧ p = .int .i64 pl ∧ Cs w wx w.heap.size (w.heap.size + 1 + 1) G V I U I ∧ Blk wx (w.heap.size + 1) 42 (dlC d))
  case first =>
    have zero : ou = 0 → pl = 0 := fun h => by rw [HPE.out, h]; rfl
    have HZ := Lib.hid zero
    clear zero
    by_cases h0 : how = 0
    · have g0 : (how != 0) = false := by simpa using h0
      have HE := Lib.hid (show ou = 0 by rw [HOE.out, if_pos h0])
      clear h0
      go_wp2_with (fail)
      go_meet
      case rel => exact ⟨by rw [HE.out], by rw [HZ.out HE.out], HC.out, HD.out⟩
    · have g0 : (how != 0) = true := by simpa using h0
      have HOE := Lib.hid (show ou = if vic = 1 ∧ s0 ≠ 0 then 1 else if vic = 2 ∧ o0 ≠ 0 then 2 else 0 by rw [HOE.out, if_neg h0])
      clear h0
      by_cases h1 : vic = 1
      · subst h1
        by_cases h2 : s0 = 0
        · have g2 : (s0 != 0) = false := by simpa using h2
          have HE := Lib.hid (show ou = 0 by rw [HOE.out, if_neg (by simp [h2]), if_neg (by simp)])
          clear h2
          go_wp2_with (fail)
          go_meet
          case rel => exact ⟨by rw [HE.out], by rw [HZ.out HE.out], HC.out, HD.out⟩
        · have g2 : (s0 != 0) = true := by simpa using h2
          have HE := Lib.hid (show ou = 1 by rw [HOE.out, if_pos ⟨rfl, h2⟩])
          clear h2
          go_wp2_with (fail)
          go_quiet (fail)
          go_wp2
          go_meet
          case rel => exact ⟨by rw [HE.out], by rw [HPE.out, HE.out]; rfl, HC.out.to (cur_drew _ _), HD.out⟩
      · have g1 : (vic == 1) = false := by simpa using h1
        have HOE := Lib.hid (show ou = if vic = 2 ∧ o0 ≠ 0 then 2 else 0 by rw [HOE.out, if_neg (fun h => h1 h.1)])
        clear h1
        by_cases h3 : vic = 2
        · subst h3
          by_cases h2 : o0 = 0
          · have g2 : (o0 != 0) = false := by simpa using h2
            have HE := Lib.hid (show ou = 0 by rw [HOE.out, if_neg (by simp [h2])])
            clear h2
            go_wp2_with (fail)
            go_meet
            case rel => exact ⟨by rw [HE.out], by rw [HZ.out HE.out], HC.out, HD.out⟩
          · have g2 : (o0 != 0) = true := by simpa using h2
            have HE := Lib.hid (show ou = 2 by rw [HOE.out, if_pos ⟨rfl, h2⟩])
            clear h2
            go_wp2_with (fail)
            go_quiet (fail)
            go_wp2
            go_meet
            case rel => exact ⟨by rw [HE.out], by rw [HPE.out, HE.out]; rfl, HC.out.to (cur_drew _ _), HD.out⟩
        · have g3 : (vic == 2) = false := by simpa using h3
          have HE := Lib.hid (show ou = 0 by rw [HOE.out, if_neg (fun h => h3 h.1)])
          clear h3
          go_wp2_with (fail)
          go_meet
          case rel => exact ⟨by rw [HE.out], by rw [HZ.out HE.out], HC.out, HD.out⟩
  case rest =>
  obtain ⟨rfl, rfl, hc, hd⟩ := hcut
  have HC := Lib.hid hc
  have HD := Lib.hid hd
  clear hc hd c6 c7 c12 c13 HOE HPE
  have c2 : wc.cell? ⟨w.heap.size + 1, 2, none⟩ = some (.int .i64 d.runs) := HD.out.cell 2
  have c5 : wc.cell? ⟨w.heap.size + 1, 5, none⟩ = some (.bool d.cr) := HD.out.cell 5
  obtain ⟨sw, hsw⟩ : ∃ y, swS d = y := ⟨_, rfl⟩
  have HSW := Lib.hid hsw
  obtain ⟨rn, hrn⟩ : ∃ y, d.runs = y := ⟨_, rfl⟩
  obtain ⟨cr, hcr⟩ : ∃ y, d.cr = y := ⟨_, rfl⟩
  have hsw2 : ((rn.tmod 2 != 0) != cr) = sw := by rw [← hsw, ← hrn, ← hcr]; rfl
  rw [hrn] at c2
  rw [hcr] at c5
  clear hrn hcr hsw
  go_upto_if 41 with (fail)
  go_cut [8] from 36 to 43 (fun s wx => s = .bool sw ∧ wx = wc)
  case first =>
    cases hb : (rn.tmod 2 != 0)
    · rw [hb] at hsw2
      cases cr
      · have HE := Lib.hid (show sw = false by rw [← hsw2]; rfl)
        clear hsw2
        go_wp2_with (fail)
        go_meet
        case rel => exact ⟨by rw [HE.out], rfl⟩
      · have HE := Lib.hid (show sw = true by rw [← hsw2]; rfl)
        clear hsw2
        go_wp2_with (fail)
        go_meet
        case rel => exact ⟨by rw [HE.out], rfl⟩
    · rw [hb] at hsw2
      cases cr
      · have HE := Lib.hid (show sw = true by rw [← hsw2]; rfl)
        clear hsw2
        go_wp2_with (fail)
        go_meet
        case rel => exact ⟨by rw [HE.out], rfl⟩
      · have HE := Lib.hid (show sw = false by rw [← hsw2]; rfl)
        clear hsw2
        go_wp2_with (fail)
        go_meet
        case rel => exact ⟨by rw [HE.out], rfl⟩
  case rest =>
  obtain ⟨rfl, rfl⟩ := hcut
  clear hsw2 c2 c5
  rename World => w3
  have hcs : ou = 0 ∨ ou = 1 ∨ ou = 2 := by rw [← HOU.out]; exact outS_cases I d
  have HRS := Lib.hid (show ranS I d = if ou = 0 then swapJ I sw else dismissS (vacJ (swapJ I sw) ou sw) pl by unfold ranS; rw [HOU.out, HPL.out, HSW.out])
  cases sw
  · have HC := Lib.hid (show Cs w w3 w.heap.size (w.heap.size + 1 + 1) G V I U (swapJ I false) from HC.out)
    rcases hcs with rfl | rfl | rfl
    · have HS := Lib.hid (show ranS I d = swapJ I false by rw [HRS.out, if_pos rfl])
      go_wp2_with (first
        | (refine wpList_load_row rfl 32 _ rfl w.heap.size (by rfl) 32 (I.cells V).toArray (0, 0) _ HC.out.inn Try.underlying32 rfl inn_info ?_)
        | (refine wpList_load_g (by rfl) 32 _ rfl w.heap.size (by rfl) 32 (I.cells V).toArray (0, 0) _ HC.out.inn Try.underlying32 rfl inn_info ?_)
        | (refine wpList_load_row rfl 32 _ rfl G (by rfl) 32 ((swapJ I false).cells U).toArray (0, 0) _ HC.out.aft Try.underlying32 rfl inn_info ?_)
        | (refine wpList_storeC rfl _ _ 32 rfl (w.heap.size + 1 + 1) 32 zeroL ((swapJ I false).cells U).toArray inn_info (by rfl) (by rfl) HC.out.res rfl (Inn.one _ HON.out) ?_))
      obtain ⟨f1, f2, f3⟩ := HC.out.fin
      refine ret_cell (g := w.heap.size + 1 + 1) (xs := (swapJ I false).cells U) rfl rfl f1 Try.underlying32 rfl inn_info rfl ?_
      rw [HS.out]
      exact ⟨U, rfl, f2, f3⟩
    · have HS := Lib.hid (show ranS I d = dismissS (vacJ (swapJ I false) 1 false) pl by rw [HRS.out, if_neg (by decide)])
      have m1 := HC.out.st
      have m2 := HC.out.fr 12
      have HC := Lib.hid (show Cs w _ w.heap.size (w.heap.size + 1 + 1) G V I U (vacJ (swapJ I false) 1 false) from HC.out.setSt 0)
      go_wp2_with (fail)
      refine (dismiss_f (vacJ (swapJ I false) 1 false) U pl G w.heap.size _ (vacJ_few HL.out 1 false) HC.out.aft HC.out.own HC.out.awa).mono ?_
      rintro e wd ⟨rfl, hd1, hd2, hd3⟩
      have HC := Lib.hid (HC.out.dis hd1 hd2 hd3)
      clear hd1 hd2 hd3
      go_wp2_with (first
        | (refine wpList_load_row rfl 32 _ rfl w.heap.size (by rfl) 32 (I.cells V).toArray (0, 0) _ HC.out.inn Try.underlying32 rfl inn_info ?_)
        | (refine wpList_load_g (by rfl) 32 _ rfl w.heap.size (by rfl) 32 (I.cells V).toArray (0, 0) _ HC.out.inn Try.underlying32 rfl inn_info ?_)
        | (refine wpList_load_row rfl 32 _ rfl G (by rfl) 32 ((dismissS (vacJ (swapJ I false) 1 false) pl).cells U).toArray (0, 0) _ HC.out.aft Try.underlying32 rfl inn_info ?_)
        | (refine wpList_storeC rfl _ _ 32 rfl (w.heap.size + 1 + 1) 32 zeroL ((dismissS (vacJ (swapJ I false) 1 false) pl).cells U).toArray inn_info (by rfl) (by rfl) HC.out.res rfl (Inn.one _ HON.out) ?_))
      obtain ⟨f1, f2, f3⟩ := HC.out.fin
      refine ret_cell (g := w.heap.size + 1 + 1) (xs := (dismissS (vacJ (swapJ I false) 1 false) pl).cells U) rfl rfl f1 Try.underlying32 rfl inn_info rfl ?_
      rw [HS.out]
      exact ⟨U, rfl, f2, f3⟩
    · have HS := Lib.hid (show ranS I d = dismissS (vacJ (swapJ I false) 2 false) pl by rw [HRS.out, if_neg (by decide)])
      have m1 := HC.out.ot
      have m2 := HC.out.fr 13
      have HC := Lib.hid (show Cs w _ w.heap.size (w.heap.size + 1 + 1) G V I U (vacJ (swapJ I false) 2 false) from HC.out.setOt 0)
      go_wp2_with (fail)
      refine (dismiss_f (vacJ (swapJ I false) 2 false) U pl G w.heap.size _ (vacJ_few HL.out 2 false) HC.out.aft HC.out.own HC.out.awa).mono ?_
      rintro e wd ⟨rfl, hd1, hd2, hd3⟩
      have HC := Lib.hid (HC.out.dis hd1 hd2 hd3)
      clear hd1 hd2 hd3
      go_wp2_with (first
        | (refine wpList_load_row rfl 32 _ rfl w.heap.size (by rfl) 32 (I.cells V).toArray (0, 0) _ HC.out.inn Try.underlying32 rfl inn_info ?_)
        | (refine wpList_load_g (by rfl) 32 _ rfl w.heap.size (by rfl) 32 (I.cells V).toArray (0, 0) _ HC.out.inn Try.underlying32 rfl inn_info ?_)
        | (refine wpList_load_row rfl 32 _ rfl G (by rfl) 32 ((dismissS (vacJ (swapJ I false) 2 false) pl).cells U).toArray (0, 0) _ HC.out.aft Try.underlying32 rfl inn_info ?_)
        | (refine wpList_storeC rfl _ _ 32 rfl (w.heap.size + 1 + 1) 32 zeroL ((dismissS (vacJ (swapJ I false) 2 false) pl).cells U).toArray inn_info (by rfl) (by rfl) HC.out.res rfl (Inn.one _ HON.out) ?_))
      obtain ⟨f1, f2, f3⟩ := HC.out.fin
      refine ret_cell (g := w.heap.size + 1 + 1) (xs := (dismissS (vacJ (swapJ I false) 2 false) pl).cells U) rfl rfl f1 Try.underlying32 rfl inn_info rfl ?_
      rw [HS.out]
      exact ⟨U, rfl, f2, f3⟩
  · have c3 := HC.out.st
    have c4 := HC.out.ot
    have f1 := HC.out.fr 12
    have HC3 := Lib.hid (HC.out.setSt I.ot)
    have d4 : (w3.setCell ⟨G, 12, none⟩ (.int .i64 I.ot)).cell? ⟨G, 13, none⟩ = some (.int .i64 I.ot) := HC3.out.ot
    have d5 := HC3.out.fr 13
    have HC := Lib.hid (show Cs w ((w3.setCell ⟨G, 12, none⟩ (.int .i64 I.ot)).setCell ⟨G, 13, none⟩ (.int .i64 I.st)) w.heap.size (w.heap.size + 1 + 1) G V I U (swapJ I true) from HC3.out.setOt I.st)
    clear HC3
    rcases hcs with rfl | rfl | rfl
    · have HS := Lib.hid (show ranS I d = swapJ I true by rw [HRS.out, if_pos rfl])
      go_wp2_with (first
        | (refine wpList_load_row rfl 32 _ rfl w.heap.size (by rfl) 32 (I.cells V).toArray (0, 0) _ HC.out.inn Try.underlying32 rfl inn_info ?_)
        | (refine wpList_load_g (by rfl) 32 _ rfl w.heap.size (by rfl) 32 (I.cells V).toArray (0, 0) _ HC.out.inn Try.underlying32 rfl inn_info ?_)
        | (refine wpList_load_row rfl 32 _ rfl G (by rfl) 32 ((swapJ I true).cells U).toArray (0, 0) _ HC.out.aft Try.underlying32 rfl inn_info ?_)
        | (refine wpList_storeC rfl _ _ 32 rfl (w.heap.size + 1 + 1) 32 zeroL ((swapJ I true).cells U).toArray inn_info (by rfl) (by rfl) HC.out.res rfl (Inn.one _ HON.out) ?_))
      obtain ⟨f1, f2, f3⟩ := HC.out.fin
      refine ret_cell (g := w.heap.size + 1 + 1) (xs := (swapJ I true).cells U) rfl rfl f1 Try.underlying32 rfl inn_info rfl ?_
      rw [HS.out]
      exact ⟨U, rfl, f2, f3⟩
    · have HS := Lib.hid (show ranS I d = dismissS (vacJ (swapJ I true) 1 true) pl by rw [HRS.out, if_neg (by decide)])
      have m1 := HC.out.ot
      have m2 := HC.out.fr 13
      have HC := Lib.hid (show Cs w _ w.heap.size (w.heap.size + 1 + 1) G V I U (vacJ (swapJ I true) 1 true) from HC.out.setOt 0)
      go_wp2_with (fail)
      refine (dismiss_f (vacJ (swapJ I true) 1 true) U pl G w.heap.size _ (vacJ_few HL.out 1 true) HC.out.aft HC.out.own HC.out.awa).mono ?_
      rintro e wd ⟨rfl, hd1, hd2, hd3⟩
      have HC := Lib.hid (HC.out.dis hd1 hd2 hd3)
      clear hd1 hd2 hd3
      go_wp2_with (first
        | (refine wpList_load_row rfl 32 _ rfl w.heap.size (by rfl) 32 (I.cells V).toArray (0, 0) _ HC.out.inn Try.underlying32 rfl inn_info ?_)
        | (refine wpList_load_g (by rfl) 32 _ rfl w.heap.size (by rfl) 32 (I.cells V).toArray (0, 0) _ HC.out.inn Try.underlying32 rfl inn_info ?_)
        | (refine wpList_load_row rfl 32 _ rfl G (by rfl) 32 ((dismissS (vacJ (swapJ I true) 1 true) pl).cells U).toArray (0, 0) _ HC.out.aft Try.underlying32 rfl inn_info ?_)
        | (refine wpList_storeC rfl _ _ 32 rfl (w.heap.size + 1 + 1) 32 zeroL ((dismissS (vacJ (swapJ I true) 1 true) pl).cells U).toArray inn_info (by rfl) (by rfl) HC.out.res rfl (Inn.one _ HON.out) ?_))
      obtain ⟨f1, f2, f3⟩ := HC.out.fin
      refine ret_cell (g := w.heap.size + 1 + 1) (xs := (dismissS (vacJ (swapJ I true) 1 true) pl).cells U) rfl rfl f1 Try.underlying32 rfl inn_info rfl ?_
      rw [HS.out]
      exact ⟨U, rfl, f2, f3⟩
    · have HS := Lib.hid (show ranS I d = dismissS (vacJ (swapJ I true) 2 true) pl by rw [HRS.out, if_neg (by decide)])
      have m1 := HC.out.st
      have m2 := HC.out.fr 12
      have HC := Lib.hid (show Cs w _ w.heap.size (w.heap.size + 1 + 1) G V I U (vacJ (swapJ I true) 2 true) from HC.out.setSt 0)
      go_wp2_with (fail)
      refine (dismiss_f (vacJ (swapJ I true) 2 true) U pl G w.heap.size _ (vacJ_few HL.out 2 true) HC.out.aft HC.out.own HC.out.awa).mono ?_
      rintro e wd ⟨rfl, hd1, hd2, hd3⟩
      have HC := Lib.hid (HC.out.dis hd1 hd2 hd3)
      clear hd1 hd2 hd3
      go_wp2_with (first
        | (refine wpList_load_row rfl 32 _ rfl w.heap.size (by rfl) 32 (I.cells V).toArray (0, 0) _ HC.out.inn Try.underlying32 rfl inn_info ?_)
        | (refine wpList_load_g (by rfl) 32 _ rfl w.heap.size (by rfl) 32 (I.cells V).toArray (0, 0) _ HC.out.inn Try.underlying32 rfl inn_info ?_)
        | (refine wpList_load_row rfl 32 _ rfl G (by rfl) 32 ((dismissS (vacJ (swapJ I true) 2 true) pl).cells U).toArray (0, 0) _ HC.out.aft Try.underlying32 rfl inn_info ?_)
        | (refine wpList_storeC rfl _ _ 32 rfl (w.heap.size + 1 + 1) 32 zeroL ((dismissS (vacJ (swapJ I true) 2 true) pl).cells U).toArray inn_info (by rfl) (by rfl) HC.out.res rfl (Inn.one _ HON.out) ?_))
      obtain ⟨f1, f2, f3⟩ := HC.out.fin
      refine ret_cell (g := w.heap.size + 1 + 1) (xs := (dismissS (vacJ (swapJ I true) 2 true) pl).cells U) rfl rfl f1 Try.underlying32 rfl inn_info rfl ?_
      rw [HS.out]
      exact ⟨U, rfl, f2, f3⟩
end Go.Proofs.Ytjlmlafiojpjmaa
