/-
  Chapter 8: Parse of the program.
-/
import Derived.Test.YtgkjcapoddjkhaaGreatDoorEvPa
import Derived.Test.YtgkjcapoddjkhaaGreatDoorLogP
import Derived.StillTailTactics
set_option linter.unusedSimpArgs false
set_option linter.unusedVariables false
namespace Go.Proofs.YtgkjcapoddjkhaaGreatDoor
open Go.RowKit
set_option maxRecDepth 100000
set_option maxHeartbeats 4000000
theorem takeAll_snoc (k : Int) : ∀ (cs : List UInt8) (ws : List (List UInt8)) (e : Ev) (c : UInt8) (w : List UInt8), cs.length = ws.length → takeAll k e (cs ++ [c]) (ws ++ [w]) = takeF k (takeAll k e cs ws) c w
  | [], [], e, c, w, _ => by simp [takeAll]
  | x :: cs, y :: ws, e, c, w, h => by
    have := takeAll_snoc k cs ws (takeF k e x y) c w (by simpa using h)
    simpa [takeAll] using this
  | [], _ :: _, _, _, _, h => by simp at h
  | _ :: _, [], _, _, _, h => by simp at h
theorem parD_ball (w : List UInt8) : 0 ≤ ((parD (guessP w) w).1).how ∧ 0 ≤ ((parD (guessP w) w).1).src := by
  unfold parD
  split
  · exact ⟨(guessP_how w).1, guessP_src w⟩
  · exact ⟨Int.le_refl 0, Int.le_refl 0⟩
theorem takeF_ball {k : Int} {e : Ev} {c : UInt8} {w : List UInt8} (h : 0 ≤ e.ball.how ∧ 0 ≤ e.ball.src) : 0 ≤ (takeF k e c w).ball.how ∧ 0 ≤ (takeF k e c w).ball.src := by
  unfold takeF
  split
  · exact h
  split
  · exact h
  split
  · exact h
  split
  · exact h
  split
  · exact h
  split
  · exact parD_ball w
  · exact h
theorem takeAll_ball (k : Int) : ∀ (cs : List UInt8) (ws : List (List UInt8)) (e : Ev), 0 ≤ e.ball.how ∧ 0 ≤ e.ball.src → 0 ≤ (takeAll k e cs ws).ball.how ∧ 0 ≤ (takeAll k e cs ws).ball.src
  | [], _, e, h => by simpa [takeAll] using h
  | _ :: _, [], e, h => by simpa [takeAll] using h
  | c :: cs, w :: ws, e, h => by
    have := takeAll_ball k cs ws (takeF k e c w) (takeF_ball h)
    simpa [takeAll] using this
theorem takeF_kind (k : Int) (e : Ev) (c : UInt8) (w : List UInt8) : (takeF k e c w).kind = e.kind := by
  unfold takeF
  repeat (first | rfl | split)
theorem evt_info : (Tryz.prog.info? 29).map (·.size) = some 19 := by kernel_rfl
theorem evt_one (e : Ev) : (evE e).toArray.all (·.oneCell') = true := by simp [evE, delE, Value.oneCell']
/-- What Parse's own blocks hold: the result, the words' row, the word's box, the event. -/
structure PaS (l : List UInt8) (r : Nat) (w wr : World) (wd : List UInt8) (x : Ev) : Prop where
  res : Blk wr r 29 (evE zeroE)
  row : Blk wr (r + 1) 9 ((splS 32 l).map Value.string)
  box : Blk wr (r + 2) 9 [.string (sA wd)]
  ev : Blk wr (r + 3) 29 (evE x)
  bl : Below w.heap.size w wr
theorem PaS.to {l : List UInt8} {r : Nat} {w wr w1 : World} {wd : List UInt8} {x : Ev} (h : PaS l r w wr wd x) (hb : Below wr.heap.size wr w1) : PaS l r w w1 wd x :=
  ⟨h.res.to hb, h.row.to hb, h.box.to hb, h.ev.to hb, cur_step1 h.bl hb⟩
theorem PaS.set {l : List UInt8} {r : Nat} {w wr : World} {wd : List UInt8} {x y : Ev} (h : PaS l r w wr wd x) (hr : w.heap.size ≤ r) (j : Nat) (u : Value) (hy : (evE x).set j u = evE y) : PaS l r w (wr.setCell ⟨r + 3, j, none⟩ u) wd y :=
  ⟨h.res.other (by omega) j u, h.row.other (by omega) j u, h.box.other (by omega) j u, by rw [← hy]; exact h.ev.set j u, below_set h.bl (by omega) j u⟩
theorem PaS.setW {l : List UInt8} {r : Nat} {w wr : World} {wd wd2 : List UInt8} {x : Ev} (h : PaS l r w wr wd x) (hr : w.heap.size ≤ r) : PaS l r w (wr.setCell ⟨r + 2, 0, none⟩ (.string (sA wd2))) wd2 x :=
  ⟨h.res.other (by omega) _ _, h.row.other (by omega) _ _, h.box.set 0 _, h.ev.other (by omega) _ _, below_set h.bl (by omega) _ _⟩
theorem PaS.kp {l : List UInt8} {r : Nat} {w wr w1 : World} {wd : List UInt8} {x y : Ev} (h : PaS l r w wr wd x) (hr : w.heap.size ≤ r) (hk : Kp (r + 3) (.slice none 0 0) wr w1) (hy : Blk w1 (r + 3) 29 (evE y)) : PaS l r w w1 wd y :=
  ⟨hk.blk h.res (by omega) (by simp [Value.ownBlock]), hk.blk h.row (by omega) (by simp [Value.ownBlock]), hk.blk h.box (by omega) (by simp [Value.ownBlock]), hy,
    h.bl.trans (hk.below (by have := h.bl.size; omega) (by omega) (fun k e => by simp [Value.ownBlock] at e))⟩
def parS (l : List UInt8) : Ev × Int := parE (guessE (splitC 32 l)) l
theorem pa_new (w : World) (l w0 : List UInt8) (r : Nat) (hr : w.heap.size = r) : PaS l r w ((((w.alloc (.cells (evE zeroE).toArray 29)).alloc (.cells ((splS 32 l).map Value.string).toArray 9)).alloc (.cells #[.string (sA w0)] 9)).alloc (.cells (evE zeroE).toArray 29)) w0 zeroE := by
  subst hr
  have b1 := Blk.new w 29 (evE zeroE)
  have b2 := Blk.new (w.alloc (.cells (evE zeroE).toArray 29)) 9 ((splS 32 l).map Value.string)
  have b3 := Blk.new ((w.alloc (.cells (evE zeroE).toArray 29)).alloc (.cells ((splS 32 l).map Value.string).toArray 9)) 9 [.string (sA w0)]
  have b4 := Blk.new (((w.alloc (.cells (evE zeroE).toArray 29)).alloc (.cells ((splS 32 l).map Value.string).toArray 9)).alloc (.cells #[.string (sA w0)] 9)) 29 (evE zeroE)
  simp only [World.size_alloc] at b2 b3 b4
  exact ⟨((b1.to (cur_new _ _)).to (cur_new _ _)).to (cur_new _ _), (b2.to (cur_new _ _)).to (cur_new _ _), b3.to (cur_new _ _), b4, cur_step1 (cur_step1 (cur_step1 (cur_new w _) (cur_new _ _)) (cur_new _ _)) (cur_new _ _)⟩
def idK : Option Nat → Int
  | none => -1
  | some i => i
theorem idxV_is (wl : List UInt8) : idxV wl = idK (kindW wl) := by unfold idxV idK; cases kindW wl <;> rfl
def gsK (K : Option Nat) (w0 : List UInt8) (ws : List (List UInt8)) : Option Ev := match K with
  | none => none
  | some i => if ws.length ≠ (fldsL ((i : Int) + 1)).length then none else some (takeAll ((i : Int) + 1) ⟨(i : Int) + 1, 0, 0, 0, decide (w0 = sTO), 0, 0, zeroD⟩ (fldsL ((i : Int) + 1)) ws)
theorem guess_is (w0 : List UInt8) (ws : List (List UInt8)) : guessE (w0 :: ws) = gsK (kindW (if w0 = sTO then sEN else w0)) w0 ws := by
  unfold guessE gsK
  dsimp only
  cases kindW (if w0 = sTO then sEN else w0) <;> rfl
def PlR (l : List UInt8) (r : Nat) (w : World) (wd : List UInt8) (tv : Bool) (i : Nat) (FL : List UInt8) (ws : List (List UInt8)) (fb : Nat) (iv : Value) (wr : World) : Prop := ∃ j : Nat, j ≤ FL.length ∧ iv = .int .i64 j ∧
  PaS l r w wr wd (takeAll ((i : Int) + 1) ⟨(i : Int) + 1, 0, 0, 0, tv, 0, 0, zeroD⟩ (FL.take j) (ws.take j)) ∧ Blk wr fb 56 fmL
theorem splitC_mlen (c : UInt8) : ∀ (l w : List UInt8), w ∈ splitC c l → w.length ≤ l.length
  | [], w, h => by simp [splitC] at h; subst h; simp
  | x :: l, w, h => by
    have ih := splitC_mlen c l
    unfold splitC at h
    split at h
    · rcases List.mem_cons.1 h with rfl | h
      · simp
      · have := ih w h; simp; omega
    · split at h
      · simp at h; subst h; simp
      · next q hq =>
        rcases List.mem_cons.1 h with rfl | h
        · have := ih _ (by rw [hq]; exact List.mem_cons_self)
          simp; omega
        · have := ih w (by rw [hq]; exact List.mem_cons_of_mem _ h)
          simp; omega
theorem parse8_p (l : List UInt8) (hl : l.length ≤ 1000000) (w : World) (hw : LibW w) : Calls Tryz.prog 14 #[.string (sA l)] w fun e' w' => e' = .returned (.tuple #[evV (parS l).1, .int .i64 (parS l).2]) ∧ Below w.heap.size w w' := by
  obtain ⟨m, hm⟩ := hw.maxlen
  obtain ⟨R, hR⟩ : ∃ R, parS l = R := ⟨_, rfl⟩
  rw [hR]
  have HR := Lib.hid hR
  have HL := Lib.hid hw
  obtain ⟨s, hs⟩ : ∃ s, sA l = s := ⟨_, rfl⟩
  have hsz : s.size ≤ 1000000 := by rw [← hs, sA_sz]; exact hl
  obtain ⟨L, hLe⟩ : ∃ L, splitC 32 l = L := ⟨_, rfl⟩
  have hN : Lib.countB s ⟨#[32]⟩ + 1 = L.length := by rw [← splS_len, ← hs, sA_list, ← hLe]; unfold splS; rw [List.length_map]
  have hL0 : L ≠ [] := by rw [← hLe]; exact splitC_ne 32 l
  obtain ⟨w0, ws, hL1⟩ : ∃ w0 ws, L = w0 :: ws := by cases L with | nil => exact absurd rfl hL0 | cons a b => exact ⟨a, b, rfl⟩
  have hlr : L.length ≤ 1000001 := by have := splitC_len 32 l; rw [hLe] at this; omega
  obtain ⟨r, hr⟩ : ∃ r, w.heap.size = r := ⟨_, rfl⟩
  obtain ⟨W0, hW0⟩ : ∃ y, w.alloc (.cells (evE zeroE).toArray 29) = y := ⟨_, rfl⟩
  have hm0 : W0.cell? ⟨0, 0, none⟩ = some (.int .i64 m) := by rw [← hW0]; exact ((cur_new w _).cell (Lib.lt_of_cell hm)).trans hm
  have SW0 := Lib.hid (show w.alloc (.cells #[.int .u8 0, .int .i64 0, .int .i64 0, .int .i64 0, .bool false, .int .i64 0, .int .i64 0, .int .u8 0, .int .u8 0, .int .i64 0, .int .i64 0, .int .i64 0, .bool false, .int .u8 0, .int .i64 0, .int .i64 0, .int .i64 0, .bool false, .int .i64 0] 29) = W0 from hW0)
  have HN := Lib.hid hN
  have HLe := Lib.hid hLe
  have HL1 := Lib.hid hL1
  have HS := Lib.hid hs
  have HRR := Lib.hid hr
  rw [hs]
  have hl1 : 1 ≤ L.length := by rw [hL1]; simp
  have HLP := Lib.hid (pa_new w l w0 r hr)
  rw [hW0] at HLP
  have h0 : W0.heap.size = r + 1 := by rw [← hW0, World.size_alloc, hr]
  have HH0 := Lib.hid h0
  clear hW0 hR hw hs hLe hN hL0 hL1 hm hr h0
  go_enter Tryz.func14, Tryz.ntmps14
  go_wp2_with (rw [SW0.out])
  refine (Tryz.split_p s ⟨#[32]⟩ m W0 (by omega) hm0 (by decide)).mono ?_
  rintro e' w2 ⟨rfl, hw2⟩
  rw [splS_map, ← HS.out, sA_list] at hw2
  rw [HN.out, HH0.out]
  have hbl2 : Blk w2 (r + 1) 9 ((splS 32 l).map Value.string) := by rw [hw2, ← HH0.out]; exact Blk.new W0 _ _
  have d0 : w2.cell? ⟨r + 1, 0, none⟩ = some (.string (sA w0)) := by rw [hbl2.cell]; unfold splS; rw [HLe.out, HL1.out]; rfl
  have h2s : w2.heap.size = r + 2 := by rw [hw2, World.size_alloc, HH0.out]
  have HW2 := Lib.hid hw2
  have H2S := Lib.hid h2s
  rw [← hw2] at HLP
  obtain ⟨z0, hz0⟩ : ∃ y, sA w0 = y := ⟨_, rfl⟩
  rw [hz0] at d0
  have HZ0 := Lib.hid hz0
  obtain ⟨W4, hW4⟩ : ∃ y, ((w2.alloc (.cells #[.string z0] 9)).alloc (.cells (evE zeroE).toArray 29)) = y := ⟨_, rfl⟩
  have HP4 := Lib.hid (show PaS l r w W4 w0 zeroE by rw [← hW4, ← HZ0.out]; exact HLP.out)
  have SW4 := Lib.hid (show (w2.alloc (.cells #[.string z0] 9)).alloc (.cells #[.int .u8 0, .int .i64 0, .int .i64 0, .int .i64 0, .bool false, .int .i64 0, .int .i64 0, .int .u8 0, .int .u8 0, .int .i64 0, .int .i64 0, .int .i64 0, .bool false, .int .u8 0, .int .i64 0, .int .i64 0, .int .i64 0, .bool false, .int .i64 0] 29) = W4 from hW4)
  have hrw : w.heap.size ≤ r := by have := HRR.out; omega
  have lr : r + 1 < w2.heap.size := by have := H2S.out; omega
  clear hw2 hbl2 h2s hz0 hW4 HLP SW0 hm0
  go_upto_region 4 with (fail)
  rw [SW4.out, H2S.out]
  rw [HRR.out, show r + 2 + 1 = r + 3 from rfl]
  obtain ⟨tv, htv⟩ : ∃ y, decide (w0 = sTO) = y := ⟨_, rfl⟩
  have gq : (z0.toList == [84, 73, 77, 69, 79, 85, 84]) = tv := by rw [← HZ0.out, ← htv, sA_to, Bool.eq_iff_iff]; simp [sTO]; exact ⟨fun h => decide_eq_true h, fun h => of_decide_eq_true h⟩
  have HTV := Lib.hid htv
  obtain ⟨wd, hwd⟩ : ∃ y, (if w0 = sTO then sEN else w0) = y := ⟨_, rfl⟩
  have HWD := Lib.hid hwd
  have p0 : W4.cell? ⟨r + 2, 0, none⟩ = some (.string z0) := by rw [← HZ0.out]; exact HP4.out.box.cell 0
  have p1 := HP4.out.box.frozen 0
  have p2 := HP4.out.box.lt
  clear htv hwd d0 lr
  go_upto_if 19 with (fail)
  go_cut [] (fun wx => PaS l r w wx wd ⟨0, 0, 0, 0, tv, 0, 0, zeroD⟩)
  case first =>
    cases tv
    · have hne : w0 ≠ sTO := by have := HTV.out; simpa using this
      have HE := Lib.hid (show wd = w0 by rw [← HWD.out, if_neg hne])
      clear hne
      go_wp2_with (fail)
      go_meet
      case rel => rw [HE.out]; exact HP4.out
    · have hne : w0 = sTO := by have := HTV.out; simpa using this
      have HE := Lib.hid (show wd = sEN by rw [← HWD.out, if_pos hne])
      clear hne
      obtain ⟨W5, hW5⟩ : ∃ y, W4.setCell ⟨r + 2, 0, none⟩ (.string ⟨#[69, 78, 84, 69, 82]⟩) = y := ⟨_, rfl⟩
      have HP5 := Lib.hid (show PaS l r w W5 sEN zeroE by rw [← hW5]; exact HP4.out.setW hrw)
      have S5 := Lib.hid hW5
      clear hW5
      have q0 : W5.cell? ⟨r + 3, 4, none⟩ = some (.bool false) := HP5.out.ev.cell 4
      have q1 := HP5.out.ev.frozen 4
      have q2 := HP5.out.ev.lt
      go_wp2_with (rw [S5.out])
      go_meet
      case rel => rw [HE.out]; exact HP5.out.set hrw 4 _ rfl
  case rest =>
  have HP6 := Lib.hid hcut
  clear hcut HP4 HW2 SW4 HH0 H2S HZ0 gq p0 p1 p2
  go_wp2_with (fail)
  refine (forms_q wc).mono ?_
  rintro e' w6 ⟨rfl, hf6, hb6⟩
  have HP7 := Lib.hid (HP6.out.to hb6)
  obtain ⟨fb, hfb⟩ : ∃ y, wc.heap.size = y := ⟨_, rfl⟩
  rw [hfb] at hf6 ⊢
  have HF7 := Lib.hid hf6
  have HFB := Lib.hid (show r + 3 < fb by have := HP6.out.ev.lt; omega)
  clear hf6 hb6 hfb HP6
  go_wp2_with (fail)
  refine (index_p fb (r + 2) wd _ rfl w6 HF7.out (HP7.out.box.cell 0)).mono ?_
  rintro e' w7 ⟨rfl, hb7⟩
  have HP8 := Lib.hid (HP7.out.to hb7)
  have HF8 := Lib.hid (HF7.out.to hb7)
  clear hb7 HP7 HF7
  obtain ⟨K, hK⟩ : ∃ K, kindW wd = K := ⟨_, rfl⟩
  rw [idxV_is, hK]
  have HG := Lib.hid (show guessE (w0 :: ws) = gsK K w0 ws by rw [guess_is, HWD.out, hK])
  have HRG := Lib.hid (show R = parE (guessE (w0 :: ws)) l by rw [← HR.out]; unfold parS; rw [HLe.out, HL1.out])
  have HKi := Lib.hid (show ∀ i, K = some i → i < 16 from fun i hi => by
    rw [hi] at hK
    have h := hK
    unfold kindW at h
    rw [List.idxOf?, List.findIdx?_eq_some_iff_getElem] at h
    exact h.1)
  have HLL := Lib.hid (show L.length = ws.length + 1 by rw [HL1.out]; rfl)
  clear hK
  cases K with
  | none =>
    unfold idK
    have HRE := Lib.hid (show R = (zeroE, 4) by rw [HRG.out, HG.out]; rfl)
    clear HG HRG
    go_wp2_with (first | (refine wpList_loadC rfl _ 29 rfl (r + 3) 29 (evE X) _ rfl (by rfl) (by rfl) (by rfl) HP8.out.ev ?_) | (refine wpList_storeC rfl _ _ 29 rfl r 29 (evE zeroE) (evE zeroE).toArray evt_info (by rfl) (by rfl) HP8.out.res rfl (evt_one _) ?_))
    refine ret_cell2 (g := r) (e := 29) (xs := (evE zeroE).toArray.toList) rfl (by rfl) (by rfl) (blk_row HP8.out.res _) rfl (by rfl) (by rfl) rfl ?_
    rw [HRE.out]
    exact ⟨rfl, row_below HP8.out.bl hrw _⟩
  | some i =>
    have hi := HKi.out i rfl
    obtain ⟨FL, hFL⟩ : ∃ y, fldsT.getD i [] = y := ⟨_, rfl⟩
    have hFl : fldsL ((i : Int) + 1) = FL := by unfold fldsL; rw [show ((i : Int) + 1 - 1).toNat = i by omega, hFL]
    have hfl2 : FL.length ≤ 2 := by rw [← hFL]; exact flds_len hi
    obtain ⟨sf, hsf⟩ : ∃ y, sA FL = y := ⟨_, rfl⟩
    have c1 : w7.cell? ⟨fb, i * 4 + 1, none⟩ = some (.string sf) := by rw [HF8.out.cell, fm_at hi (by decide), ← hsf, ← hFL]; rfl
    have hsfz : sf.size = FL.length := by rw [← hsf]; rfl
    unfold gsK at HG
    dsimp only at HG
    rw [hFl] at HG
    unfold idK
    have HFL := Lib.hid hFL
    have HSF := Lib.hid hsf
    have hi1 : (i : Int) < 16 := by omega
    have hi0 : (0 : Int) ≤ i := by omega
    clear hFL hFl hsf
    by_cases hlen : L.length = 1 + FL.length
    · have g1 : ((L.length : Int) != 1 + (FL.length : Int)) = false := by simp; omega
      have HLN := Lib.hid hlen
      have HRX := Lib.hid (show R = parE (some (takeAll ((i : Int) + 1) ⟨(i : Int) + 1, 0, 0, 0, tv, 0, 0, zeroD⟩ FL ws)) l by rw [HRG.out, HG.out, if_neg (by have := HLL.out; omega), HTV.out])
      have hwr : IntKind.u8.wrap ((i : Int) + 1) = (i : Int) + 1 := by show (((i : Int) + 1) % 256) = _; omega
      have k0 : w7.cell? ⟨r + 3, 0, none⟩ = some (.int .u8 0) := HP8.out.ev.cell 0
      have k1 := HP8.out.ev.frozen 0
      have k2 := HP8.out.ev.lt
      obtain ⟨w8, hw8⟩ : ∃ y, w7.setCell ⟨r + 3, 0, none⟩ (.int .u8 ((i : Int) + 1)) = y := ⟨_, rfl⟩
      have HP9 := Lib.hid (show PaS l r w w8 wd ⟨(i : Int) + 1, 0, 0, 0, tv, 0, 0, zeroD⟩ by rw [← hw8]; exact HP8.out.set hrw 0 _ rfl)
      have HF9 := Lib.hid (show Blk w8 fb 56 fmL by rw [← hw8]; exact HF8.out.other (by have := HFB.out; omega) _ _)
      have S8 := Lib.hid hw8
      clear hw8 HG HRG hlen
      have hl2 : (1 : Int) ≤ L.length := by omega
      by_cases hF : FL.length = 0
      · have hL1 : L.length = 1 := by have := HLN.out; omega
        have hF1 : FL = [] := List.eq_nil_of_length_eq_zero hF
        have hw1 : ws = [] := List.eq_nil_of_length_eq_zero (by have := HLL.out; omega)
        obtain ⟨X, hX⟩ : ∃ X, takeAll ((i : Int) + 1) ⟨(i : Int) + 1, 0, 0, 0, tv, 0, 0, zeroD⟩ FL ws = X := ⟨_, rfl⟩
        have HPY := Lib.hid (show PaS l r w w8 wd X by rw [← hX, hF1, hw1]; exact HP9.out)
        have HBL := Lib.hid (show 0 ≤ X.ball.how ∧ 0 ≤ X.ball.src by rw [← hX]; exact takeAll_ball _ _ _ _ ⟨Int.le_refl 0, Int.le_refl 0⟩)
        rw [hX] at HRX
        clear hX hF1 hw1
        go_wp2_with (rw [S8.out])
        go_loopw [47] (fun iv wr => iv = .int .i64 0 ∧ wr = w8) (fun _ _ => 0)
        case atStart => exact ⟨rfl, rfl⟩
        case round =>
          obtain ⟨rfl, rfl⟩ := hrel
          go_wp2_with (refine wpList_loadC rfl _ 29 rfl (r + 3) 29 (evE X) _ rfl (by rfl) (by rfl) (by rfl) HPY.out.ev ?_)
          refine (text_p X HBL.out.1 _ (HL.out.to HPY.out.bl)).mono ?_
          rintro e' w9 ⟨rfl, hb9⟩
          have HPZ := Lib.hid (HPY.out.to hb9)
          clear hb9
          by_cases hc : chkE X = 0
          · have HT := Lib.hid (show TxtE X = (txtE X, 0) by unfold TxtE; rw [if_neg (by simpa using hc)])
            rw [HT.out]
            obtain ⟨tS, htS⟩ : ∃ y, sA (txtE X) = y := ⟨_, rfl⟩
            have htq : (tS.toList == s.toList) = decide (txtE X = l) := by rw [← htS, ← HS.out]; exact sA_eqb _ _
            by_cases ht : txtE X = l
            · have htq2 : (tS.toList == s.toList) = true := by rw [htq]; simpa using ht
              have HRE := Lib.hid (show R = (X, 0) by rw [HRX.out]; unfold parE; dsimp only; rw [if_pos ⟨hc, ht⟩])
              dsimp only
              rw [htS]
              clear htq ht hc htS HRX
              go_wp2_with (first | (refine wpList_loadC rfl _ 29 rfl (r + 3) 29 (evE X) _ rfl (by rfl) (by rfl) (by rfl) HPZ.out.ev ?_) | (refine wpList_storeC rfl _ _ 29 rfl r 29 (evE zeroE) (evE X).toArray evt_info (by rfl) (by rfl) HPZ.out.res rfl (evt_one _) ?_))
              refine ret_cell2 (g := r) (e := 29) (xs := (evE X).toArray.toList) rfl (by rfl) (by rfl) (blk_row HPZ.out.res _) rfl (by rfl) (by rfl) rfl ?_
              rw [HRE.out]
              exact ⟨rfl, row_below HPZ.out.bl hrw _⟩
            · have htq2 : (tS.toList == s.toList) = false := by rw [htq]; simpa using ht
              have HRE := Lib.hid (show R = (zeroE, 4) by rw [HRX.out]; unfold parE; dsimp only; rw [if_neg (fun q => ht q.2)])
              dsimp only
              rw [htS]
              clear htq ht hc htS HRX
              go_wp2_with (first | (refine wpList_loadC rfl _ 29 rfl (r + 3) 29 (evE X) _ rfl (by rfl) (by rfl) (by rfl) HPZ.out.ev ?_) | (refine wpList_storeC rfl _ _ 29 rfl r 29 (evE zeroE) (evE zeroE).toArray evt_info (by rfl) (by rfl) HPZ.out.res rfl (evt_one _) ?_))
              refine ret_cell2 (g := r) (e := 29) (xs := (evE zeroE).toArray.toList) rfl (by rfl) (by rfl) (blk_row HPZ.out.res _) rfl (by rfl) (by rfl) rfl ?_
              rw [HRE.out]
              exact ⟨rfl, row_below HPZ.out.bl hrw _⟩
          · obtain ⟨v, hv⟩ : ∃ v, chkE X = v := ⟨_, rfl⟩
            have HT := Lib.hid (show TxtE X = ([], v) by unfold TxtE; rw [if_pos hc, hv])
            have g1v : (v != 0) = true := by rw [← hv]; simpa using hc
            have HRE := Lib.hid (show R = (zeroE, 4) by rw [HRX.out]; unfold parE; dsimp only; rw [if_neg (fun q => hc q.1)])
            rw [HT.out]
            clear hc hv HRX
            go_wp2_with (first | (refine wpList_loadC rfl _ 29 rfl (r + 3) 29 (evE X) _ rfl (by rfl) (by rfl) (by rfl) HPZ.out.ev ?_) | (refine wpList_storeC rfl _ _ 29 rfl r 29 (evE zeroE) (evE zeroE).toArray evt_info (by rfl) (by rfl) HPZ.out.res rfl (evt_one _) ?_))
            refine ret_cell2 (g := r) (e := 29) (xs := (evE zeroE).toArray.toList) rfl (by rfl) (by rfl) (blk_row HPZ.out.res _) rfl (by rfl) (by rfl) rfl ?_
            rw [HRE.out]
            exact ⟨rfl, row_below HPZ.out.bl hrw _⟩
      · have hL1 : ¬ L.length = 1 := by have := HLN.out; omega
        have hLs : L.length - 1 = FL.length := by have := HLN.out; omega
        obtain ⟨z0, hz0⟩ : ∃ y, sA (wordT.getD i []) = y := ⟨_, rfl⟩
        obtain ⟨z2, hz2⟩ : ∃ y, sA (yesT.getD i []) = y := ⟨_, rfl⟩
        obtain ⟨z3, hz3⟩ : ∃ y, sA (noT.getD i []) = y := ⟨_, rfl⟩
        have HFM := Lib.hid (show fmE i = [.string z0, .string sf, .string z2, .string z3] by unfold fmE; rw [hz0, hz2, hz3, HFL.out, HSF.out])
        clear hz0 hz2 hz3
        go_wp2_with (rw [S8.out])
        clear c1 k0 k1 k2
        go_loopw [47] (PlR l r w wd tv i FL ws fb) (fun iv _ => FL.length - (intOf iv).toNat)
        case atStart => exact ⟨0, by omega, rfl, HP9.out, HF9.out⟩
        case round =>
          obtain ⟨j, hj, rfl, hpa, hfb2⟩ := hrel
          have HPA := Lib.hid hpa
          have HFA := Lib.hid hfb2
          clear hpa hfb2
          by_cases hjF : j < FL.length
          · obtain ⟨c, hcj⟩ : ∃ c, FL[j]? = some c := ⟨_, List.getElem?_eq_getElem hjF⟩
            obtain ⟨wj, hwj⟩ : ∃ x, ws[j]? = some x := ⟨_, List.getElem?_eq_getElem (by have := HLL.out; have := HLN.out; omega)⟩
            obtain ⟨hz, hsj⟩ := sA_at HSF.out hcj
            have h256 : c.toNat < 256 := c.toNat_lt
            obtain ⟨zj, hzj⟩ : ∃ y, sA wj = y := ⟨_, rfl⟩
            have r1 : wr.cell? ⟨r + 1, 1 + j, none⟩ = some (.string zj) := by
              rw [HPA.out.row.cell]
              unfold splS
              rw [HLe.out, HL1.out, Nat.add_comm 1 j]
              simp [hwj, ← hzj, sA]
            have HZJ := Lib.hid hzj
            have c0 : wr.cell? ⟨fb, i * 4, none⟩ = some (.string z0) := by rw [HFA.out.cell]; exact (fm_at (j := 0) hi (by decide)).trans (by rw [HFM.out]; rfl)
            have c1 : wr.cell? ⟨fb, i * 4 + 1, none⟩ = some (.string sf) := by rw [HFA.out.cell]; exact (fm_at (j := 1) hi (by decide)).trans (by rw [HFM.out]; rfl)
            have c2 : wr.cell? ⟨fb, i * 4 + 2, none⟩ = some (.string z2) := by rw [HFA.out.cell]; exact (fm_at (j := 2) hi (by decide)).trans (by rw [HFM.out]; rfl)
            have c3 : wr.cell? ⟨fb, i * 4 + 3, none⟩ = some (.string z3) := by rw [HFA.out.cell]; exact (fm_at (j := 3) hi (by decide)).trans (by rw [HFM.out]; rfl)
            have lfb := HFA.out.lt
            have lrb := HPA.out.row.lt
            have HNXT := Lib.hid (show takeF ((i : Int) + 1) (takeAll ((i : Int) + 1) ⟨(i : Int) + 1, 0, 0, 0, tv, 0, 0, zeroD⟩ (FL.take j) (ws.take j)) c wj = takeAll ((i : Int) + 1) ⟨(i : Int) + 1, 0, 0, 0, tv, 0, 0, zeroD⟩ (FL.take (j + 1)) (ws.take (j + 1)) by
              rw [List.take_add_one, List.take_add_one, hcj, hwj]
              refine (takeAll_snoc _ _ _ _ _ _ ?_).symm
              rw [List.length_take, List.length_take]
              have := HLL.out; have := HLN.out; omega)
            have hcall := take8_p i hi (takeAll ((i : Int) + 1) ⟨(i : Int) + 1, 0, 0, 0, tv, 0, 0, zeroD⟩ (FL.take j) (ws.take j)) c (flds_mem hi c (by rw [HFL.out]; exact List.mem_of_getElem? hcj)) wj (by have := splitC_mlen 32 l wj (by rw [HLe.out, HL1.out]; exact List.mem_cons_of_mem _ (List.mem_of_getElem? hwj)); omega) (r + 3) wr.drew (HL.out.to (HPA.out.bl.drew)) HPA.out.ev
            rw [HFM.out, hzj, HNXT.out] at hcall
            have HC := Lib.hid hcall
            clear hcall hcj hwj hzj
            go_wp2_with (fail)
            refine wp_region_still_tail 12 (by kernel_rfl) (by kernel_rfl) ?_
            simp only [List.take_succ_cons, List.take_zero, List.drop_succ_cons, List.drop_zero]
            repeat still_step
            refine wpStill_nil ?_
            go_wp2_with (fail)
            refine HC.out.mono ?_
            rintro e' w9 ⟨rfl, hbk, hkp⟩
            have hkp2 : Kp (r + 3) (.slice none 0 0) wr w9 := ⟨hkp.os, hkp.tape, hkp.output, hkp.size, hkp.block⟩
            have HN9 := Lib.hid (HPA.out.kp hrw hkp2 hbk)
            have HF9 := Lib.hid (hkp2.blk HFA.out (by have := HFB.out; omega) (by simp [Value.ownBlock]))
            clear hbk hkp hkp2
            go_wp2_with (fail)
            exact ⟨⟨j + 1, hjF, rfl, HN9.out, HF9.out⟩, by show FL.length - (j + 1) < FL.length - j; omega⟩
          · have hjn : j = FL.length := by omega
            obtain ⟨X, hX⟩ : ∃ X, takeAll ((i : Int) + 1) ⟨(i : Int) + 1, 0, 0, 0, tv, 0, 0, zeroD⟩ FL ws = X := ⟨_, rfl⟩
            have HPY := Lib.hid (show PaS l r w wr wd X by have := HPA.out; rw [hjn, List.take_length, List.take_of_length_le (by have := HLL.out; have := HLN.out; omega), hX] at this; exact this)
            have HBL := Lib.hid (show 0 ≤ X.ball.how ∧ 0 ≤ X.ball.src by rw [← hX]; exact takeAll_ball _ _ _ _ ⟨Int.le_refl 0, Int.le_refl 0⟩)
            rw [hX] at HRX
            clear hX hjn HPA
            go_wp2_with (refine wpList_loadC rfl _ 29 rfl (r + 3) 29 (evE X) _ rfl (by rfl) (by rfl) (by rfl) HPY.out.ev ?_)
            refine (text_p X HBL.out.1 _ (HL.out.to HPY.out.bl)).mono ?_
            rintro e' w9 ⟨rfl, hb9⟩
            have HPZ := Lib.hid (HPY.out.to hb9)
            clear hb9
            by_cases hc : chkE X = 0
            · have HT := Lib.hid (show TxtE X = (txtE X, 0) by unfold TxtE; rw [if_neg (by simpa using hc)])
              rw [HT.out]
              obtain ⟨tS, htS⟩ : ∃ y, sA (txtE X) = y := ⟨_, rfl⟩
              have htq : (tS.toList == s.toList) = decide (txtE X = l) := by rw [← htS, ← HS.out]; exact sA_eqb _ _
              by_cases ht : txtE X = l
              · have htq2 : (tS.toList == s.toList) = true := by rw [htq]; simpa using ht
                have HRE := Lib.hid (show R = (X, 0) by rw [HRX.out]; unfold parE; dsimp only; rw [if_pos ⟨hc, ht⟩])
                dsimp only
                rw [htS]
                clear htq ht hc htS HRX
                go_wp2_with (first | (refine wpList_loadC rfl _ 29 rfl (r + 3) 29 (evE X) _ rfl (by rfl) (by rfl) (by rfl) HPZ.out.ev ?_) | (refine wpList_storeC rfl _ _ 29 rfl r 29 (evE zeroE) (evE X).toArray evt_info (by rfl) (by rfl) HPZ.out.res rfl (evt_one _) ?_))
                refine ret_cell2 (g := r) (e := 29) (xs := (evE X).toArray.toList) rfl (by rfl) (by rfl) (blk_row HPZ.out.res _) rfl (by rfl) (by rfl) rfl ?_
                rw [HRE.out]
                exact ⟨rfl, row_below HPZ.out.bl hrw _⟩
              · have htq2 : (tS.toList == s.toList) = false := by rw [htq]; simpa using ht
                have HRE := Lib.hid (show R = (zeroE, 4) by rw [HRX.out]; unfold parE; dsimp only; rw [if_neg (fun q => ht q.2)])
                dsimp only
                rw [htS]
                clear htq ht hc htS HRX
                go_wp2_with (first | (refine wpList_loadC rfl _ 29 rfl (r + 3) 29 (evE X) _ rfl (by rfl) (by rfl) (by rfl) HPZ.out.ev ?_) | (refine wpList_storeC rfl _ _ 29 rfl r 29 (evE zeroE) (evE zeroE).toArray evt_info (by rfl) (by rfl) HPZ.out.res rfl (evt_one _) ?_))
                refine ret_cell2 (g := r) (e := 29) (xs := (evE zeroE).toArray.toList) rfl (by rfl) (by rfl) (blk_row HPZ.out.res _) rfl (by rfl) (by rfl) rfl ?_
                rw [HRE.out]
                exact ⟨rfl, row_below HPZ.out.bl hrw _⟩
            · obtain ⟨v, hv⟩ : ∃ v, chkE X = v := ⟨_, rfl⟩
              have HT := Lib.hid (show TxtE X = ([], v) by unfold TxtE; rw [if_pos hc, hv])
              have g1v : (v != 0) = true := by rw [← hv]; simpa using hc
              have HRE := Lib.hid (show R = (zeroE, 4) by rw [HRX.out]; unfold parE; dsimp only; rw [if_neg (fun q => hc q.1)])
              rw [HT.out]
              clear hc hv HRX
              go_wp2_with (first | (refine wpList_loadC rfl _ 29 rfl (r + 3) 29 (evE X) _ rfl (by rfl) (by rfl) (by rfl) HPZ.out.ev ?_) | (refine wpList_storeC rfl _ _ 29 rfl r 29 (evE zeroE) (evE zeroE).toArray evt_info (by rfl) (by rfl) HPZ.out.res rfl (evt_one _) ?_))
              refine ret_cell2 (g := r) (e := 29) (xs := (evE zeroE).toArray.toList) rfl (by rfl) (by rfl) (blk_row HPZ.out.res _) rfl (by rfl) (by rfl) rfl ?_
              rw [HRE.out]
              exact ⟨rfl, row_below HPZ.out.bl hrw _⟩
    · have g1 : ((L.length : Int) != 1 + (FL.length : Int)) = true := by simp; omega
      have HRE := Lib.hid (show R = (zeroE, 4) by rw [HRG.out, HG.out, if_pos (by have := HLL.out; omega)]; rfl)
      clear HG HRG hlen
      go_wp2_with (first | (refine wpList_loadC rfl _ 29 rfl (r + 3) 29 (evE X) _ rfl (by rfl) (by rfl) (by rfl) HP8.out.ev ?_) | (refine wpList_storeC rfl _ _ 29 rfl r 29 (evE zeroE) (evE zeroE).toArray evt_info (by rfl) (by rfl) HP8.out.res rfl (evt_one _) ?_))
      refine ret_cell2 (g := r) (e := 29) (xs := (evE zeroE).toArray.toList) rfl (by rfl) (by rfl) (blk_row HP8.out.res _) rfl (by rfl) (by rfl) rfl ?_
      rw [HRE.out]
      exact ⟨rfl, row_below HP8.out.bl hrw _⟩
end Go.Proofs.YtgkjcapoddjkhaaGreatDoor
