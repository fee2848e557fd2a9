/-
  Chapter 8: ParseLog of the program.
-/
import Derived.Test.YtgkjcapoddjkhaaGreatDoorEvPb
import Derived.Test.YtgkjcapoddjkhaaGreatDoorJoi
import Derived.Test.YtgkjcapoddjkhaaGreatDoorFldL
import Derived.StillTailTactics
import Derived.Deep.DeepCutAuto
import Derived.Deep.RegionHeld3
set_option linter.unusedSimpArgs false
set_option linter.unusedVariables false
namespace Go.Proofs.YtgkjcapoddjkhaaGreatDoor
open Go.RowKit
set_option maxRecDepth 100000
set_option maxHeartbeats 4000000
theorem Tryz.infoEv : (Tryz.prog.info? 29).map (fun i => (i.zero, i.size, i.bytes)) = some (some (.agg (evE zeroE).toArray), 19, 136) := by kernel_rfl
theorem Tryz.evElem : ElemOf Tryz.prog evE 19 136 40 29 := .mk' Tryz.infoEv rfl Tryz.underlying40 (by decide) evE_len (fun x u hu => by simp [evE, delE] at hu; rcases hu with rfl | rfl | rfl | rfl | rfl | rfl | rfl | rfl | rfl | rfl | rfl | rfl | rfl | rfl | rfl | rfl | rfl | rfl | rfl <;> rfl)
/-- Two rows of the call's own beside one another: events and diagnostics. -/
structure EgS (b1 : Nat) (wr : World) (A : Option Addr) (c : Nat) (es : List Ev) (B : Option Addr) (cb : Nat) (dl : List Dg) : Prop where
  ev : OwnL evE 19 29 b1 wr (.slice A es.length c) es
  dg : OwnL dgE 3 50 b1 wr (.slice B dl.length cb) dl
  f1 : ∀ k, (Value.slice B dl.length cb).ownBlock = some k → (Value.slice A es.length c).ownBlock ≠ some k
theorem EgS.to {b1 : Nat} {wr w1 : World} {A : Option Addr} {c : Nat} {es : List Ev} {B : Option Addr} {cb : Nat} {dl : List Dg} (h : EgS b1 wr A c es B cb dl) (hb : Below wr.heap.size wr w1) : EgS b1 w1 A c es B cb dl :=
  ⟨own_below h.ev hb (Nat.le_refl _), own_below h.dg hb (Nat.le_refl _), h.f1⟩
theorem EgS.start (b1 : Nat) (w : World) : EgS b1 w none 0 [] none 0 [] := ⟨World.ownsRow_nil _ _ _ _, World.ownsRow_nil _ _ _ _, (fun k h => by cases h)⟩
theorem EgS.evt {b1 : Nat} {wr w0 w1 : World} {A : Option Addr} {c : Nat} {es : List Ev} {B : Option Addr} {cb : Nat} {dl : List Dg} {x : Ev} {g cap : Nat} (h : EgS b1 wr A c es B cb dl) (hb : Below wr.heap.size wr w0)
    (ha : App w0 w1 b1 29 19 (.slice A es.length c) g cap es.length 1 (es.flatMap evE) (evE x)) : EgS b1 w1 (some ⟨g, 0, none⟩) cap (es ++ [x]) B cb dl := by
  have h0 := h.to hb
  have hbs := hb.size
  have hd : ∀ k, (Value.slice B dl.length cb).ownBlock = some k → k < wr.heap.size := fun k hk => (own_block_lt h.dg hk).2
  refine ⟨by rw [List.length_append]; exact ha.one rfl, own_keep h0.dg (fun k hk => ha.grown.block k (by have := hd k hk; omega) (fun e => h.f1 k hk e.symm)), fun k hk e => ?_⟩
  have e : g = k := by injection e
  rcases ha.at_ with h1 | h1
  · exact h.f1 k hk (by rw [h1, e])
  · have := hd k hk; omega
theorem EgS.diag {b1 : Nat} {wr w0 w1 : World} {A : Option Addr} {c : Nat} {es : List Ev} {B : Option Addr} {cb : Nat} {dl : List Dg} {d : Dg} {g cap : Nat} (h : EgS b1 wr A c es B cb dl) (hb : Below wr.heap.size wr w0)
    (ha : App w0 w1 b1 50 3 (.slice B dl.length cb) g cap dl.length 1 (dl.flatMap dgE) (dgE d)) : EgS b1 w1 A c es (some ⟨g, 0, none⟩) cap (dl ++ [d]) := by
  have h0 := h.to hb
  have hbs := hb.size
  have hA : ∀ k, (Value.slice A es.length c).ownBlock = some k → k < wr.heap.size := fun k hk => (own_block_lt h.ev hk).2
  refine ⟨own_keep h0.ev (fun k hk => ha.grown.block k (by have := hA k hk; omega) (fun e => h.f1 k e.symm hk)), by rw [List.length_append]; exact ha.one rfl, fun k hk e => ?_⟩
  have hk : g = k := by injection hk
  rcases ha.at_ with h1 | h1
  · exact h.f1 k (by rw [h1, hk]) e
  · have := hA k e; omega
theorem foldl_take {α β : Type} (f : α → β → α) (a : α) (l : List β) (k : Nat) (x : β) (h : l[k]? = some x) : (l.take (k + 1)).foldl f a = f ((l.take k).foldl f a) x := by
  rw [List.take_add_one, h, List.foldl_append]
  rfl
def LgR (rs : List Lr) (w2 : World) (dv lv iv : Value) (wr : World) : Prop := ∃ (k : Nat) (es : List Ev) (A : Option Addr) (c : Nat) (dl : List Dg) (B : Option Addr) (cb : Nat), k ≤ rs.length ∧ iv = .int .i64 k ∧ lv = .slice A es.length c ∧ dv = .slice B dl.length cb ∧ es.length ≤ k ∧ dl.length ≤ k ∧
  EgS w2.heap.size wr A c es B cb dl ∧ ((rs.map Lr.lin).take k).foldl plStep ([], []) = (es, dl) ∧ Below w2.heap.size w2 wr
theorem parlog_p (l : List UInt8) (hl : l.length ≤ 1000000) (w : World) (hw : LibW w) : Calls Tryz.prog 19 #[.string (sA l)] w fun e w' => ∃ A c B cb, e = .returned (.tuple #[.slice A (ParLogP l).1.length c, .slice B (ParLogP l).2.length cb]) ∧ OwnL evE 19 29 w.heap.size w' (.slice A (ParLogP l).1.length c) (ParLogP l).1 ∧ OwnL dgE 3 50 w.heap.size w' (.slice B (ParLogP l).2.length cb) (ParLogP l).2 ∧ Below w.heap.size w w' := by
  obtain ⟨R, hR⟩ : ∃ R, ParLogP l = R := ⟨_, rfl⟩
  rw [hR]
  obtain ⟨S, hS⟩ : ∃ S, splitP l = S := ⟨_, rfl⟩
  have hok : ∀ x ∈ S.1, LinOk x := by rw [← hS]; exact splitP_ok l
  have hlen : S.1.length ≤ 262145 := by
    rw [← hS]
    unfold splitP
    split
    · simp
    · have h1 := splF_len (splitC 10 l) 0 ([], [])
      have h2 := splitC_len 10 l
      simp only [List.length_nil] at h1
      omega
  have HR := Lib.hid (show R = if S.2 ≠ [] then ([], S.2) else if (S.1.foldl plStep ([], [])).2 ≠ [] then ([], (S.1.foldl plStep ([], [])).2) else if 4000 < (S.1.foldl plStep ([], [])).1.length then ([], [⟨1, 1, 9⟩]) else ((S.1.foldl plStep ([], [])).1, []) by rw [← hR, ← hS]; rfl)
  have hsp := split3_p l hl w hw
  rw [hS] at hsp
  have HSP := Lib.hid hsp
  have HL := Lib.hid hw
  have HOK := Lib.hid hok
  obtain ⟨s, hs⟩ : ∃ s, sA l = s := ⟨_, rfl⟩
  rw [hs] at HSP ⊢
  clear hR hS hok hsp hw hs
  obtain ⟨S1, S2⟩ := S
  dsimp only at HR HSP hlen HOK
  go_enter Tryz.func19, Tryz.ntmps19
  go_wp2_with (fail)
  refine HSP.out.mono ?_
  rintro e w2 ⟨A0, c0, rs, B0, cb0, rfl, hsps, rfl, hb2⟩
  have HS2 := Lib.hid hsps
  have HB2 := Lib.hid hb2
  clear hsps hb2
  by_cases hd0 : S2 = []
  case neg =>
    have hdl : 0 < S2.length := List.length_pos_iff.2 hd0
    have HRR := Lib.hid (show R = ([], S2) by rw [HR.out, if_pos hd0])
    clear hd0
    go_wp2_with (fail)
    go_ret2
    rw [HRR.out]
    exact ⟨none, 0, B0, cb0, rfl, World.ownsRow_nil _ _ _ _, HS2.out.dg, HB2.out⟩
  subst hd0
  obtain ⟨hB0, hcb0⟩ := HS2.out.nil rfl
  subst hB0 hcb0
  have HRR := Lib.hid (show R = if ((rs.map Lr.lin).foldl plStep ([], [])).2 ≠ [] then ([], ((rs.map Lr.lin).foldl plStep ([], [])).2) else if 4000 < ((rs.map Lr.lin).foldl plStep ([], [])).1.length then ([], [⟨1, 1, 9⟩]) else (((rs.map Lr.lin).foldl plStep ([], [])).1, []) by rw [HR.out, if_neg (by simp)])
  have hrl : rs.length ≤ 262145 := by simpa using hlen
  have HRO := Lib.hid (OwnL.rd lrE_len HS2.out.tab.own)
  clear HR hlen HSP
  go_wp2_with (fail)
  go_loopw [5, 6, 24] (LgR rs w2) (fun _ _ i _ => rs.length - (intOf i).toNat)
  case atStart => exact ⟨0, [], none, 0, [], none, 0, by omega, rfl, rfl, rfl, by simp, by simp, EgS.start _ _, rfl, Below.refl _ _⟩
  case round =>
    obtain ⟨k, es, A, c, dl, B, cb, hk, rfl, rfl, rfl, hel, hdl, hS, hsp, hb⟩ := hrel
    have HS := Lib.hid hS
    have HSPK := Lib.hid hsp
    have HB := Lib.hid hb
    clear hS hsp hb
    by_cases hkl : k < rs.length
    · obtain ⟨x, hx⟩ : ∃ x, rs[k]? = some x := ⟨_, List.getElem?_eq_getElem hkl⟩
      obtain ⟨A9, c9, e9, hrd, hz9⟩ := HRO.out
      injection e9 with e91 _ e93
      subst e91 e93
      obtain ⟨b2, off2, rfl, hb2l, hc2⟩ := hrd k x hx
      obtain rfl : off2 = 0 := (hz9 b2 off2 rfl).2
      have hxm := List.mem_of_getElem? hx
      have hrow := HS2.out.tab.rows x hxm
      obtain ⟨A8, c8, e8, hrd8, _⟩ := OwnL.rd flE_len hrow
      injection e8 with e81 _ e83
      subst e81 e83
      obtain ⟨num, g, gc, fs⟩ := x
      dsimp only at hrd8 hrow
      have hlo : LinOk ⟨num, fs⟩ := HOK.out _ (List.mem_map.2 ⟨_, hxm, rfl⟩)
      have HLO := Lib.hid hlo
      have d0 : wr.cell? ⟨b2, k * 2, none⟩ = some (.int .i64 num) := (HB.out.cell (p := ⟨b2, k * 2, none⟩) hb2l).trans (by simpa using hc2 0 _ rfl)
      have d1 : wr.cell? ⟨b2, k * 2 + 1, none⟩ = some (.slice (some ⟨g, 0, none⟩) fs.length gc) := (HB.out.cell (p := ⟨b2, k * 2 + 1, none⟩) hb2l).trans (by simpa using hc2 1 _ rfl)
      have HRD := Lib.hid (show Rd flE 3 wr wr.heap.size (some ⟨g, 0, none⟩) fs from hrd8.to HB.out)
      have HNX := Lib.hid (show ((rs.map Lr.lin).take (k + 1)).foldl plStep ([], []) = plStep (es, dl) ⟨num, fs⟩ by rw [foldl_take plStep ([], []) (rs.map Lr.lin) k ⟨num, fs⟩ (by rw [List.getElem?_map, hx]; rfl), HSPK.out])
      have HGL := Lib.hid (own_blk hrow).2
      clear hz9 hc2 hrd hrd8 hrow hlo hx hxm
      obtain ⟨W3, hW3⟩ : ∃ y, wr.alloc (.cells #[.int .i64 num, .slice (some ⟨g, 0, none⟩) fs.length gc] 97) = y := ⟨_, rfl⟩
      have HB3 := Lib.hid (show Below wr.heap.size wr W3 by rw [← hW3]; exact cur_new _ _)
      have HX3 := Lib.hid (show Blk W3 wr.heap.size 97 [.int .i64 num, .slice (some ⟨g, 0, none⟩) fs.length gc] by rw [← hW3]; exact Blk.new wr _ _)
      have q0 : W3.cell? ⟨wr.heap.size, 0, none⟩ = some (.int .i64 num) := HX3.out.cell 0
      have q1 : W3.cell? ⟨wr.heap.size, 1, none⟩ = some (.slice (some ⟨g, 0, none⟩) fs.length gc) := HX3.out.cell 1
      have S3 := Lib.hid hW3
      clear hW3
      go_wp2_with (rw [S3.out])
      refine (joined_p num g gc fs HLO.out.1 (by have := HLO.out.2.1; omega) (by have := HLO.out.2.2; show (joinF fs).1.length ≤ _; exact Nat.le_trans this (by omega)) W3 (HRD.out.to HB3.out)).mono ?_
      rintro e w4 ⟨rfl, hb4⟩
      obtain ⟨J, hJ⟩ : ∃ J, joinF fs = J := ⟨_, rfl⟩
      have hjl : J.1.length ≤ 2000 := by rw [← hJ]; exact HLO.out.2.2
      rw [hJ]
      obtain ⟨jl, pl⟩ := J
      dsimp only at hjl ⊢
      have HJ := Lib.hid hJ
      have HB4 := Lib.hid (cur_step1 HB3.out hb4)
      have HX4 := Lib.hid (HX3.out.to hb4)
      clear hb4 hJ d0 d1 q0 q1
      go_wp2_with (fail)
      refine (parse8_p jl (by omega) w4 (HL.out.to (cur_step1 HB2.out (cur_step1 HB.out HB4.out)))).mono ?_
      rintro e w5 ⟨rfl, hb5⟩
      obtain ⟨P, hP⟩ : ∃ P, parS jl = P := ⟨_, rfl⟩
      rw [hP]
      obtain ⟨X, er⟩ := P
      dsimp only
      have HP := Lib.hid hP
      have HB5 := Lib.hid (cur_step1 HB4.out hb5)
      have HX5 := Lib.hid (HX4.out.to hb5)
      clear hb5 hP
      obtain ⟨W6, hW6⟩ : ∃ y, w5.alloc (.cells (evE X).toArray 29) = y := ⟨_, rfl⟩
      have S6 := Lib.hid hW6
      have HB6 := Lib.hid (show Below wr.heap.size wr W6 by rw [← hW6]; exact cur_step1 HB5.out (cur_new w5 _))
      have HX6 := Lib.hid (show Blk W6 wr.heap.size 97 [.int .i64 num, .slice (some ⟨g, 0, none⟩) fs.length gc] by rw [← hW6]; exact HX5.out.to (cur_new w5 _))
      have HE6 := Lib.hid (show Blk W6 w5.heap.size 29 (evE X) by rw [← hW6]; exact Blk.new w5 _ _)
      have HRD6 := Lib.hid (show Rd flE 3 W6 W6.heap.size (some ⟨g, 0, none⟩) fs from HRD.out.to HB6.out)
      clear hW6
      go_upto_region 10 with (refine wpList_storeNew rfl _ _ 29 rfl _ (evE X).toArray evt_info (by rfl) (by rfl) rfl (evt_one _) ?_; rw [S6.out])
      obtain ⟨f9, fr9, hfs⟩ : ∃ f9 fr9, fs = f9 :: fr9 := by cases fs with | nil => exact absurd rfl HLO.out.1 | cons a b => exact ⟨a, b, rfl⟩
      obtain ⟨ft, fcol, fqq⟩ := f9
      have HCOL := Lib.hid (show colL ⟨num, fs⟩ = fcol by rw [hfs]; rfl)
      have hfl0 : (0 : Int) < fs.length := by have := congrArg List.length hfs; simp at this; omega
      have hfl1 : 0 < fs.length := by omega
      have q0 : W6.cell? ⟨wr.heap.size, 0, none⟩ = some (.int .i64 num) := HX6.out.cell 0
      have q1 : W6.cell? ⟨wr.heap.size, 1, none⟩ = some (.slice (some ⟨g, 0, none⟩) fs.length gc) := HX6.out.cell 1
      have q2 : W6.cell? ⟨g, 1, none⟩ = some (.int .i64 fcol) := by
        obtain ⟨b3, off3, e3, _, hc3⟩ := HRD6.out 0 _ (by rw [hfs]; rfl)
        injection e3 with e3
        injection e3 with e31 e32 _
        subst e31 e32
        simpa using hc3 1 _ rfl
      obtain ⟨W7, hW7⟩ : ∃ y, W6.drew = y := ⟨_, rfl⟩
      have HB7 := Lib.hid (show Below wr.heap.size wr W7 by rw [← hW7]; exact HB6.out.drew)
      have SW7 := Lib.hid hW7
      clear hfs hW7
      cases pl
      · have HCD := Lib.hid (show ((false : Bool) = false ∨ er ≠ 0) from .inl rfl)
        have HN2 := Lib.hid (show ((rs.map Lr.lin).take (k + 1)).foldl plStep ([], []) = if dl.length < 50 then (es, dl ++ [⟨num, fcol, 4⟩]) else (es, dl) by
          rw [HNX.out]
          unfold plStep
          rw [if_pos (by show (joinF fs).2 = false ∨ (parS (joinF fs).1).2 ≠ 0; rw [HJ.out]; dsimp only; rw [HP.out]; exact HCD.out), HCOL.out])
        by_cases hd50 : dl.length < 50
        · have g5 : decide ((dl.length : Int) < 50) = true := by simp; omega
          have HN3 := Lib.hid (show ((rs.map Lr.lin).take (k + 1)).foldl plStep ([], []) = (es, dl ++ [⟨num, fcol, 4⟩]) by rw [HN2.out, if_pos hd50])
          go_wp2_with (fail)
          have ol := World.ownsRow.lt HS.out.dg
          have n1 : (Value.slice B dl.length cb).ownBlock ≠ some wr.heap.size := fun e => by have := ol _ e; omega
          have n2 : (Value.slice B dl.length cb).ownBlock ≠ some g := fun e => by have := ol _ e; have := HGL.out; omega
          have hw26 : w2.heap.size ≤ W6.heap.size := Nat.le_trans HB.out.size HB6.out.size
          have hx6 := HX6.out.lt
          have hg6 : g < W6.heap.size := Nat.lt_of_lt_of_le HGL.out hw26
          clear ol
          go_region_held3 (fun w' => w'.cell? ⟨wr.heap.size, 0, none⟩ = some (.int .i64 num) ∧ w'.cell? ⟨wr.heap.size, 1, none⟩ = some (.slice (some ⟨g, 0, none⟩) fs.length gc) ∧ w'.cell? ⟨g, 1, none⟩ = some (.int .i64 fcol))
            (first
              | go_keep
              | (go_split_ands
                 refine ⟨?_, ?_, ?_⟩
                 · (rw [ha.far (by simp; omega) n1]; assumption)
                 · (rw [ha.far (by simp; omega) n1]; assumption)
                 · (rw [ha.far (by simp; omega) n2]; assumption)))
            ((refine step_app1 Tryz.dgElem _ (by rfl) _ _ (by rfl) w2.heap.size B cb dl (by rfl) ((World.ownsRow.alloc (HS.out.to HB6.out).dg _).drew) (⟨num, fcol, 4⟩ : Dg) W6.heap.size 1 (by rfl) (heap_alloc_new W6 _) (by unfold maxLen; omega) (by omega) (by simp; omega) ?_; intro g2 cap w8 ha))
          have hb8 := (app1_end (cur_step1 HB.out HB6.out) (own_base HS.out.dg) ((cur_new W6 _).drew) ha).1
          have hs8 := HS.out.diag (cur_step1 HB6.out (cur_new W6 _).drew) ha
          have HB8 := Lib.hid hb8
          have HS8 := Lib.hid hs8
          clear ha hb8 hs8
          go_wp2_with (fail)
          exact ⟨⟨k + 1, es, A, c, dl ++ [⟨num, fcol, 4⟩], some ⟨g2, 0, none⟩, cap, by omega, rfl, rfl, by simp, by omega, by simp; omega, HS8.out, HN3.out, HB8.out⟩, by show rs.length - (k + 1) < rs.length - k; omega⟩
        · have g5 : decide ((dl.length : Int) < 50) = false := by simp; omega
          have HN3 := Lib.hid (show ((rs.map Lr.lin).take (k + 1)).foldl plStep ([], []) = (es, dl) by rw [HN2.out, if_neg hd50])
          go_wp2_with (fail)
          exact ⟨⟨k + 1, es, A, c, dl, B, cb, by omega, rfl, rfl, rfl, by omega, by omega, HS.out.to HB6.out, HN3.out, cur_step1 HB.out HB6.out⟩, by show rs.length - (k + 1) < rs.length - k; omega⟩
      · by_cases her : er = 0
        · subst her
          clear q0 q1 q2 hfl0 hfl1
          have HN3 := Lib.hid (show ((rs.map Lr.lin).take (k + 1)).foldl plStep ([], []) = (es ++ [X], dl) by
            rw [HNX.out]
            unfold plStep
            rw [if_neg (by show ¬ ((joinF fs).2 = false ∨ (parS (joinF fs).1).2 ≠ 0); rw [HJ.out]; dsimp only; rw [HP.out]; simp)]
            show (es ++ [(parS (joinF fs).1).1], dl) = _
            rw [HJ.out]
            dsimp only
            rw [HP.out])
          go_upto_region 13 with (fail)
          refine wp_region_lit ?_
          refine wpList_step (fun K hK => ?_)
          go_simp
          refine hK _ _ ?_
          clear hK K
          refine wpList_loadC rfl _ 29 rfl w5.heap.size 29 [.int .u8 X.kind, .int .i64 X.side, .int .i64 X.player, .int .i64 X.other, .bool X.yes, .int .i64 X.runs, .int .i64 X.overs, .int .u8 X.ball.ty, .int .u8 X.ball.src, .int .i64 X.ball.runs, .int .i64 X.ball.short, .int .i64 X.ball.bd, .bool X.ball.cr, .int .u8 X.ball.how, .int .i64 X.ball.vic, .int .i64 X.ball.fd, .int .i64 X.ball.sd, .bool X.ball.sub, .int .i64 X.ball.sec] _ rfl (by rfl) (by rfl) (by rfl) HE6.out ?_
          refine wpList_step (fun K hK => ?_)
          go_simp
          refine hK _ _ ?_
          clear hK K
          refine wpList_app1 Tryz.evElem _ rfl (.tmp 58) (.tmp 60) rfl w2.heap.size A c es rfl ?o1 X W6.heap.size 1 rfl ?o2 ?o3 ?o4 ?o5 ?_
          case o1 => exact World.ownsRow.alloc (HS.out.to HB6.out).ev _
          case o2 => first | exact heap_alloc_new _ _ | exact (Array.getElem?_eq_some_iff.1 (heap_alloc_new _ _)).2
          case o3 => unfold maxLen; omega
          case o4 => omega
          case o5 => have := (cur_step1 HB.out HB6.out).size; first | omega | (simp; omega)
          intro g2 cap w8 ha
          have hb8 := (app1_end (cur_step1 HB.out HB6.out) (own_base HS.out.ev) (cur_new _ _) ha).1
          have hs8 := HS.out.evt (cur_step1 HB6.out (cur_new _ _)) ha
          have HB8 := Lib.hid hb8
          have HS8 := Lib.hid hs8
          clear ha hb8 hs8
          go_wp2_with (fail)
          exact ⟨⟨k + 1, es ++ [X], some ⟨g2, 0, none⟩, cap, dl, B, cb, by omega, rfl, by simp, rfl, by simp; omega, by omega, HS8.out, HN3.out, HB8.out⟩, by show rs.length - (k + 1) < rs.length - k; omega⟩
        · have ger : (er != 0) = true := by simpa using her
          have HCD := Lib.hid (show ((true : Bool) = false ∨ er ≠ 0) from .inr her)
          clear her
          have HN2 := Lib.hid (show ((rs.map Lr.lin).take (k + 1)).foldl plStep ([], []) = if dl.length < 50 then (es, dl ++ [⟨num, fcol, 4⟩]) else (es, dl) by
            rw [HNX.out]
            unfold plStep
            rw [if_pos (by show (joinF fs).2 = false ∨ (parS (joinF fs).1).2 ≠ 0; rw [HJ.out]; dsimp only; rw [HP.out]; exact HCD.out), HCOL.out])
          by_cases hd50 : dl.length < 50
          · have g5 : decide ((dl.length : Int) < 50) = true := by simp; omega
            have HN3 := Lib.hid (show ((rs.map Lr.lin).take (k + 1)).foldl plStep ([], []) = (es, dl ++ [⟨num, fcol, 4⟩]) by rw [HN2.out, if_pos hd50])
            go_wp2_with (fail)
            have ol := World.ownsRow.lt HS.out.dg
            have n1 : (Value.slice B dl.length cb).ownBlock ≠ some wr.heap.size := fun e => by have := ol _ e; omega
            have n2 : (Value.slice B dl.length cb).ownBlock ≠ some g := fun e => by have := ol _ e; have := HGL.out; omega
            have hw26 : w2.heap.size ≤ W6.heap.size := Nat.le_trans HB.out.size HB6.out.size
            have hx6 := HX6.out.lt
            have hg6 : g < W6.heap.size := Nat.lt_of_lt_of_le HGL.out hw26
            clear ol
            go_region_held3 (fun w' => w'.cell? ⟨wr.heap.size, 0, none⟩ = some (.int .i64 num) ∧ w'.cell? ⟨wr.heap.size, 1, none⟩ = some (.slice (some ⟨g, 0, none⟩) fs.length gc) ∧ w'.cell? ⟨g, 1, none⟩ = some (.int .i64 fcol))
              (first
                | go_keep
                | (go_split_ands
                   refine ⟨?_, ?_, ?_⟩
                   · (rw [ha.far (by simp; omega) n1]; assumption)
                   · (rw [ha.far (by simp; omega) n1]; assumption)
                   · (rw [ha.far (by simp; omega) n2]; assumption)))
              ((refine step_app1 Tryz.dgElem _ (by rfl) _ _ (by rfl) w2.heap.size B cb dl (by rfl) ((World.ownsRow.alloc (HS.out.to HB6.out).dg _).drew) (⟨num, fcol, 4⟩ : Dg) W6.heap.size 1 (by rfl) (heap_alloc_new W6 _) (by unfold maxLen; omega) (by omega) (by simp; omega) ?_; intro g2 cap w8 ha))
            have hb8 := (app1_end (cur_step1 HB.out HB6.out) (own_base HS.out.dg) ((cur_new W6 _).drew) ha).1
            have hs8 := HS.out.diag (cur_step1 HB6.out (cur_new W6 _).drew) ha
            have HB8 := Lib.hid hb8
            have HS8 := Lib.hid hs8
            clear ha hb8 hs8
            go_wp2_with (fail)
            exact ⟨⟨k + 1, es, A, c, dl ++ [⟨num, fcol, 4⟩], some ⟨g2, 0, none⟩, cap, by omega, rfl, rfl, by simp, by omega, by simp; omega, HS8.out, HN3.out, HB8.out⟩, by show rs.length - (k + 1) < rs.length - k; omega⟩
          · have g5 : decide ((dl.length : Int) < 50) = false := by simp; omega
            have HN3 := Lib.hid (show ((rs.map Lr.lin).take (k + 1)).foldl plStep ([], []) = (es, dl) by rw [HN2.out, if_neg hd50])
            go_wp2_with (fail)
            exact ⟨⟨k + 1, es, A, c, dl, B, cb, by omega, rfl, rfl, rfl, by omega, by omega, HS.out.to HB6.out, HN3.out, cur_step1 HB.out HB6.out⟩, by show rs.length - (k + 1) < rs.length - k; omega⟩
    · have hkn : k = rs.length := by omega
      have g9 : ¬ k < rs.length := hkl
      have HF := Lib.hid (show (rs.map Lr.lin).foldl plStep ([], []) = (es, dl) by rw [← HSPK.out, hkn, ← List.length_map (f := Lr.lin), List.take_length])
      have hbw : w.heap.size ≤ w2.heap.size := HB2.out.size
      clear hkn
      by_cases hdl0 : dl = []
      · subst hdl0
        by_cases h4000 : 4000 < es.length
        · have g5 : decide (4000 < (es.length : Int)) = true := by simp; omega
          have HFI := Lib.hid (show R = ([], [⟨1, 1, 9⟩]) by rw [HRR.out, HF.out, if_neg (by simp), if_pos h4000])
          go_wp2_with (fail)
          go_ret2
          rw [HFI.out]
          exact ⟨none, 0, some ⟨wr.heap.size, 0, none⟩, 1, rfl, World.ownsRow_nil _ _ _ _, World.ownsRow_lit wr (dgE ⟨1, 1, 9⟩).toArray 1 (by have := HB.out.size; omega) (by decide) rfl, cur_step1 (cur_step1 HB2.out HB.out) (cur_new _ _)⟩
        · have g5 : decide (4000 < (es.length : Int)) = false := by simp; omega
          have HFI := Lib.hid (show R = (es, []) by rw [HRR.out, HF.out, if_neg (by simp), if_neg h4000])
          go_wp2_with (fail)
          go_ret2
          rw [HFI.out]
          exact ⟨A, c, none, 0, rfl, own_mono HS.out.ev hbw, World.ownsRow_nil _ _ _ _, cur_step1 HB2.out HB.out⟩
      · have hdl1 : 0 < dl.length := List.length_pos_iff.2 hdl0
        have HFI := Lib.hid (show R = ([], dl) by rw [HRR.out, HF.out, if_pos hdl0])
        clear hdl0
        go_wp2_with (fail)
        go_ret2
        rw [HFI.out]
        exact ⟨none, 0, B, cb, rfl, World.ownsRow_nil _ _ _ _, own_mono HS.out.dg hbw, cur_step1 HB2.out HB.out⟩
end Go.Proofs.YtgkjcapoddjkhaaGreatDoor
