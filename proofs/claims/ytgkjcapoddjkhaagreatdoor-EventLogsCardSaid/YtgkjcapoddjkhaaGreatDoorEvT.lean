/-
  Chapter 8: Text of the program.
-/
import Derived.Test.YtgkjcapoddjkhaaGreatDoorEvK
import Derived.Test.YtgkjcapoddjkhaaGreatDoorTxD
import Derived.Test.YtgkjcapoddjkhaaGreatDoorJoinE
import Derived.Deep.DeepCutAuto
import Derived.Deep.CutBlock
import Derived.RegionTactic
import Derived.Deep.RegionHeld3
set_option linter.unusedSimpArgs false
set_option linter.unusedVariables false
namespace Go.Proofs.YtgkjcapoddjkhaaGreatDoor
open Go.RowKit
set_option maxRecDepth 100000
set_option maxHeartbeats 4000000
theorem forms_q (w : World) : Calls Tryz.prog 25 #[] w fun e w' => e = .returned (.slice (some ⟨w.heap.size, 0, none⟩) 16 16) ∧ Blk w' w.heap.size 56 fmL ∧ Below w.heap.size w w' :=
  (forms_p w).mono fun e w' ⟨h1, h2⟩ => ⟨h1, by rw [h2]; exact Blk.new w _ _, by rw [h2]; exact cur_new _ _⟩
theorem form_load {W : World} {g n N : Nat} {xs : List Value} (hb : Blk W g 56 fmL) (hx : ∀ j v, xs[j]? = some v → fmL[n * 4 + j]? = some v) (h4 : xs.length = 4) (hN : xs.length = N) : Sem.run Tryz.prog (loadCellsFrom ⟨g, n * N, none⟩ 0 N #[]) W = .ok xs.toArray W := by
  subst hN
  rw [show n * xs.length = n * 4 by rw [h4]]
  have := run_loadCells_list (P := Tryz.prog) W ⟨g, n * 4, none⟩ xs (fun j v hv => by
    have hadd : (⟨g, n * 4, none⟩ : Addr).add j = ⟨g, n * 4 + j, none⟩ := by unfold Addr.add; split <;> simp_all
    rw [hadd, hb.cell]
    exact hx j v hv)
  simpa [loadCells] using this
theorem form_info : (Tryz.prog.info? 56).map (·.size) = some 4 := by kernel_rfl
theorem form_store (n : Nat) {W : World} {g : Nat} (hb : Blk W g 56 [.string ⟨#[]⟩, .string ⟨#[]⟩, .string ⟨#[]⟩, .string ⟨#[]⟩]) : Sem.run Tryz.prog (storeCells ⟨g, 0, none⟩ (fmE n)) W = .ok () (W.setRow g (fmE n).toArray) :=
  run_storeCells_blk _ hb form_info rfl (by simp [fmE, Value.oneCell'])
theorem form_zero {w2 w3 : World} (qb : Below (w2.alloc (.cells #[.string ⟨#[]⟩, .string ⟨#[]⟩, .string ⟨#[]⟩, .string ⟨#[]⟩] 56)).drew.heap.size (w2.alloc (.cells #[.string ⟨#[]⟩, .string ⟨#[]⟩, .string ⟨#[]⟩, .string ⟨#[]⟩] 56)).drew w3) : Blk w3 w2.heap.size 56 [.string ⟨#[]⟩, .string ⟨#[]⟩, .string ⟨#[]⟩, .string ⟨#[]⟩] :=
  Blk.below (w := (w2.alloc (.cells #[.string ⟨#[]⟩, .string ⟨#[]⟩, .string ⟨#[]⟩, .string ⟨#[]⟩] 56)).drew) (Blk.new w2 _ [.string ⟨#[]⟩, .string ⟨#[]⟩, .string ⟨#[]⟩, .string ⟨#[]⟩]) qb (by simp only [World.size_drew, World.size_alloc]; omega)
theorem form_relA {w2 w3 : World} {b n : Nat} {E : List Value} (hk : Blk w2 b 29 E) (qb : Below w2.heap.size w2 w3) : ∃ f, Value.pointer (some ⟨w3.heap.size, 0, none⟩) = .pointer (some ⟨f, 0, none⟩) ∧ Blk ((w3.alloc (.cells #[.string ⟨#[]⟩, .string ⟨#[]⟩, .string ⟨#[]⟩, .string ⟨#[]⟩] 56)).setRow w3.heap.size (fmE n).toArray) f 56 (fmE n) ∧ Blk ((w3.alloc (.cells #[.string ⟨#[]⟩, .string ⟨#[]⟩, .string ⟨#[]⟩, .string ⟨#[]⟩] 56)).setRow w3.heap.size (fmE n).toArray) b 29 E ∧ w2.heap.size ≤ f ∧ Below w2.heap.size w2 ((w3.alloc (.cells #[.string ⟨#[]⟩, .string ⟨#[]⟩, .string ⟨#[]⟩, .string ⟨#[]⟩] 56)).setRow w3.heap.size (fmE n).toArray) := by
  have h3 := (hk.to qb)
  have hlt := h3.lt
  refine ⟨_, rfl, by simpa using blk_row (Blk.new w3 56 [.string ⟨#[]⟩, .string ⟨#[]⟩, .string ⟨#[]⟩, .string ⟨#[]⟩]) (fmE n).toArray, Blk.row_other (h3.to (cur_new w3 _)) (by omega) _, qb.size, ?_⟩
  exact row_below (cur_step1 qb (cur_new w3 _)) qb.size _
theorem form_relB {w2 w3 : World} {b n : Nat} {E : List Value} (hk : Blk w2 b 29 E) (qb : Below (w2.alloc (.cells #[.string ⟨#[]⟩, .string ⟨#[]⟩, .string ⟨#[]⟩, .string ⟨#[]⟩] 56)).drew.heap.size (w2.alloc (.cells #[.string ⟨#[]⟩, .string ⟨#[]⟩, .string ⟨#[]⟩, .string ⟨#[]⟩] 56)).drew w3) : ∃ f, Value.pointer (some ⟨w2.heap.size, 0, none⟩) = .pointer (some ⟨f, 0, none⟩) ∧ Blk (w3.setRow w2.heap.size (fmE n).toArray) f 56 (fmE n) ∧ Blk (w3.setRow w2.heap.size (fmE n).toArray) b 29 E ∧ w2.heap.size ≤ f ∧ Below w2.heap.size w2 (w3.setRow w2.heap.size (fmE n).toArray) := by
  have hlt := hk.lt
  have q1 : Below w2.heap.size w2 w3 := cur_step1 (cur_new w2 (.cells #[.string ⟨#[]⟩, .string ⟨#[]⟩, .string ⟨#[]⟩, .string ⟨#[]⟩] 56)).drew qb
  exact ⟨_, rfl, by simpa using blk_row (form_zero qb) (fmE n).toArray, Blk.row_other (hk.to q1) (by omega) _, Nat.le_refl _, row_below q1 (Nat.le_refl _) _⟩
theorem joinS_len {m : Nat} : ∀ {ws : List (List UInt8)}, (∀ w ∈ ws, w.length ≤ m) → (joinS ws).length ≤ ws.length * (m + 1)
  | [], _ => by simp [joinS]
  | w :: r, h => by
    have ih := joinS_len (ws := r) (fun x hx => h x (List.mem_cons_of_mem _ hx))
    have hw := h w List.mem_cons_self
    rw [joinS]
    split
    · rw [List.length_cons, Nat.succ_mul]; omega
    · rw [List.length_append, List.length_cons, List.length_cons, Nat.succ_mul]; omega
theorem prt_len {d : Del} (h : OkD d) : (prtD d).length ≤ 60 := by
  unfold prtD
  have h1 := tyL_len d.ty
  have h2 := srcL_len d.ty d.src
  have h3 := runL_len d
  have h4 := bdL_len d.bd
  have h5 := shL_len d.short
  have h6 := crL_len d.cr
  have h7 := wkL_len h
  have h8 : (secL d.sec).length ≤ 5 := by unfold secL; split <;> simp [dg]
  simp only [List.length_append]
  omega
theorem flds_mem {n : Nat} (hn : n < 16) : ∀ c ∈ fldsT.getD n [], c ∈ allC := by
  rcases (by omega : n = 0 ∨ n = 1 ∨ n = 2 ∨ n = 3 ∨ n = 4 ∨ n = 5 ∨ n = 6 ∨ n = 7 ∨ n = 8 ∨ n = 9 ∨ n = 10 ∨ n = 11 ∨ n = 12 ∨ n = 13 ∨ n = 14 ∨ n = 15) with rfl | rfl | rfl | rfl | rfl | rfl | rfl | rfl | rfl | rfl | rfl | rfl | rfl | rfl | rfl | rfl <;> decide
theorem flds_len {n : Nat} (hn : n < 16) : (fldsT.getD n []).length ≤ 2 := by
  rcases (by omega : n = 0 ∨ n = 1 ∨ n = 2 ∨ n = 3 ∨ n = 4 ∨ n = 5 ∨ n = 6 ∨ n = 7 ∨ n = 8 ∨ n = 9 ∨ n = 10 ∨ n = 11 ∨ n = 12 ∨ n = 13 ∨ n = 14 ∨ n = 15) with rfl | rfl | rfl | rfl | rfl | rfl | rfl | rfl | rfl | rfl | rfl | rfl | rfl | rfl | rfl | rfl <;> decide
theorem word_len {n : Nat} (hn : n < 16) : (wordT.getD n []).length ≤ 60 ∧ (yesT.getD n []).length ≤ 60 ∧ (noT.getD n []).length ≤ 60 := by
  rcases (by omega : n = 0 ∨ n = 1 ∨ n = 2 ∨ n = 3 ∨ n = 4 ∨ n = 5 ∨ n = 6 ∨ n = 7 ∨ n = 8 ∨ n = 9 ∨ n = 10 ∨ n = 11 ∨ n = 12 ∨ n = 13 ∨ n = 14 ∨ n = 15) with rfl | rfl | rfl | rfl | rfl | rfl | rfl | rfl | rfl | rfl | rfl | rfl | rfl | rfl | rfl | rfl <;> decide
theorem fits_of {e : Ev} (h : OkE e) {n : Nat} (hn : n < 16) (hk : e.kind = (n : Int) + 1) {c : UInt8} (hc : c ∈ fldsT.getD n []) : fitF e c = true := by
  refine h.fits c (flds_mem hn c hc) ?_
  unfold usesB fldsL
  rw [hk, show ((n : Int) + 1 - 1).toNat = n by omega]
  simp only [List.contains_iff_mem.2 hc, Bool.true_or]
theorem runs_le {e : Ev} (h : btw e.runs (loR e.kind) (hiR e.kind) = true) : 0 ≤ e.runs ∧ e.runs ≤ 1000000 := by
  unfold btw at h
  simp only [Bool.and_eq_true, decide_eq_true_eq] at h
  have h1 : 0 ≤ loR e.kind := by unfold loR; split <;> (try split) <;> omega
  have h2 : hiR e.kind ≤ 100000 := by unfold hiR; split <;> (try split) <;> omega
  omega
theorem btw_le {n lo hi : Int} (h : btw n lo hi = true) (h0 : 0 ≤ lo) (h1 : hi ≤ 1000000) : 0 ≤ n ∧ n ≤ 1000000 := by
  unfold btw at h
  simp only [Bool.and_eq_true, decide_eq_true_eq] at h
  omega
theorem kind_ball {n : Nat} (hn : n < 16) (h : 98 ∈ fldsT.getD n []) : n = 3 := by
  rcases (by omega : n = 0 ∨ n = 1 ∨ n = 2 ∨ n = 3 ∨ n = 4 ∨ n = 5 ∨ n = 6 ∨ n = 7 ∨ n = 8 ∨ n = 9 ∨ n = 10 ∨ n = 11 ∨ n = 12 ∨ n = 13 ∨ n = 14 ∨ n = 15) with rfl | rfl | rfl | rfl | rfl | rfl | rfl | rfl | rfl | rfl | rfl | rfl | rfl | rfl | rfl | rfl <;> revert h <;> decide
theorem word0_len {e : Ev} (hk : 1 ≤ e.kind ∧ e.kind ≤ 16) : (word0 e).length ≤ 60 := by
  unfold word0
  split
  · decide
  · obtain ⟨n, hn, hkn⟩ : ∃ n : Nat, n < 16 ∧ e.kind = (n : Int) + 1 := ⟨(e.kind - 1).toNat, by omega, by omega⟩
    unfold wordL
    rw [hkn, show ((n : Int) + 1 - 1).toNat = n by omega]
    exact (word_len hn).1
theorem field_len {e : Ev} (h : OkE e) {n : Nat} (hn : n < 16) (hk : e.kind = (n : Int) + 1) {c : UInt8} (hc : c ∈ fldsT.getD n []) : (fieldL e c).length ≤ 60 := by
  have hf := fits_of h hn hk hc
  have hm := flds_mem hn c hc
  have hd : ∀ x : Int, 0 ≤ x ∧ x ≤ 1000000 → (dcB x).length ≤ 60 := fun x hx => by have := dcB_len (n := x) (by omega); omega
  simp only [allC, List.mem_cons, List.not_mem_nil, or_false] at hm
  rcases hm with rfl | rfl | rfl | rfl | rfl | rfl | rfl
  · exact hd e.side (btw_le hf (by decide) (by decide))
  · exact hd e.player (btw_le hf (by decide) (by decide))
  · exact hd e.other (btw_le hf (by decide) (by decide))
  · show (if e.yes then yesL e.kind else noL e.kind).length ≤ 60
    unfold yesL noL
    rw [hk, show ((n : Int) + 1 - 1).toNat = n by omega]
    split
    · exact (word_len hn).2.1
    · exact (word_len hn).2.2
  · exact hd e.runs (runs_le hf)
  · exact hd e.overs (btw_le hf (by decide) (by decide))
  · show (prtD e.ball).length ≤ 60
    have h3 := kind_ball hn hc
    subst h3
    exact prt_len (okD_of (h.ball hk))
theorem txt_len {e : Ev} (h : OkE e) : (joinS (wordsE e)).length ≤ 200 := by
  have hkb := h.kind
  obtain ⟨n, hn, hkn⟩ : ∃ n : Nat, n < 16 ∧ e.kind = (n : Int) + 1 := ⟨(e.kind - 1).toNat, by omega, by omega⟩
  have hw : ∀ w ∈ wordsE e, w.length ≤ 60 := by
    intro w hw
    unfold wordsE at hw
    rcases List.mem_cons.1 hw with rfl | hw
    · exact word0_len h.kind
    · obtain ⟨c, hc, rfl⟩ := List.mem_map.1 hw
      unfold fldsL at hc
      rw [hkn, show ((n : Int) + 1 - 1).toNat = n by omega] at hc
      exact field_len h hn hkn hc
  have := joinS_len hw
  have h2 : (wordsE e).length ≤ 3 := by
    unfold wordsE fldsL
    rw [hkn, show ((n : Int) + 1 - 1).toNat = n by omega, List.length_cons, List.length_map]
    have := flds_len hn
    omega
  have h3 := Nat.mul_le_mul_right (60 + 1) h2
  omega
theorem Kp.blk {p : Nat} {v : Value} {w w' : World} (h : Kp p v w w') {g : Nat} {t : TypeId} {xs : List Value} (hb : Blk w g t xs) (h1 : g ≠ p) (h2 : v.ownBlock ≠ some g) : Blk w' g t xs := by
  unfold Blk
  rw [h.block g hb.lt h1 h2]
  exact hb
theorem Kp.below {p : Nat} {v : Value} {w w' : World} (h : Kp p v w w') {B : Nat} (hB : B ≤ w.heap.size) (h1 : B ≤ p) (h2 : ∀ k, v.ownBlock = some k → B ≤ k) : Below B w w' :=
  ⟨h.os, h.tape, h.output, h.size, fun k hk => h.block k (by omega) (by omega) (fun e => by have := h2 k e; omega)⟩
structure TxS (e : Ev) (n f b p base : Nat) (w wr : World) (l : List (List UInt8)) (A : Option Addr) (c : Nat) : Prop where
  wd : WdS p base wr l A c
  fm : Blk wr f 56 (fmE n)
  ev : Blk wr b 29 (evE e)
  bl : Below w.heap.size w wr
theorem TxS.to {e : Ev} {n f b p base : Nat} {w wr w1 : World} {l : List (List UInt8)} {A : Option Addr} {c : Nat} (h : TxS e n f b p base w wr l A c) (hb : Below wr.heap.size wr w1) : TxS e n f b p base w w1 l A c :=
  ⟨h.wd.to hb, h.fm.to hb, h.ev.to hb, cur_step1 h.bl hb⟩
theorem TxS.kp {e : Ev} {n f b p base : Nat} {w wr w1 : World} {l l' : List (List UInt8)} {A A' : Option Addr} {c c' : Nat} (h : TxS e n f b p base w wr l A c) (hk : Kp p (.slice A l.length c) wr w1) (hw : WdS p base w1 l' A' c')
    (hbp : base ≤ p) (hf : f < base) (hb : b < base) (hwb : w.heap.size ≤ base) : TxS e n f b p base w w1 l' A' c' := by
  have ho : ∀ k, (Value.slice A l.length c).ownBlock = some k → base ≤ k := own_base h.wd.own
  have hpl := h.wd.box.lt
  have hbel : Below base wr w1 := hk.below (by omega) hbp ho
  exact ⟨hw, hk.blk h.fm (by omega) (fun e => by have := ho _ e; omega), hk.blk h.ev (by omega) (fun e => by have := ho _ e; omega), h.bl.trans (hbel.mono hwb)⟩
theorem tx_new {e : Ev} {n f b : Nat} {w wc : World} (hf : Blk wc f 56 (fmE n)) (hb : Blk wc b 29 (evE e)) (hw : Below w.heap.size w wc) (s : List UInt8) :
    TxS e n f b (wc.heap.size + 1) wc.heap.size w ((wc.alloc (.cells #[.string (sA s)] 9)).alloc (.cells #[.slice (some ⟨wc.heap.size, 0, none⟩) 1 1] 59)) [s] (some ⟨wc.heap.size, 0, none⟩) 1 := by
  have h2 := cur_two wc (.cells #[.string (sA s)] 9) (.cells #[.slice (some ⟨wc.heap.size, 0, none⟩) 1 1] 59)
  have ho := World.ownsRow_lit wc (base := wc.heap.size) (e := 9) (size := 1) #[.string (sA s)] 1 (Nat.le_refl _) (by decide) rfl
  refine ⟨⟨?_, World.ownsRow.alloc ho _, ?_⟩, hf.to h2, hb.to h2, cur_step1 hw h2⟩
  · have := Blk.new (wc.alloc (.cells #[.string (sA s)] 9)) 59 [.slice (some ⟨wc.heap.size, 0, none⟩) 1 1]
    rw [World.size_alloc] at this
    exact this
  · intro e
    have e : wc.heap.size = wc.heap.size + 1 := by injection e
    omega
theorem tx_time {e : Ev} {n f b : Nat} {w wc : World} (hf : Blk wc f 56 (fmE n)) (hb : Blk wc b 29 (evE e)) (hw : Below w.heap.size w wc) (s0 : ByteArray) :
    TxS e n f b (wc.heap.size + 1) wc.heap.size w (((wc.alloc (.cells #[.string s0] 9)).alloc (.cells #[.slice (some ⟨wc.heap.size, 0, none⟩) 1 1] 59)).setCell ⟨wc.heap.size, 0, none⟩ (.string ⟨#[84, 73, 77, 69, 79, 85, 84]⟩)) [sTO] (some ⟨wc.heap.size, 0, none⟩) 1 := by
  have h := tx_new hf hb hw sTO
  have e1 : ((wc.alloc (.cells #[.string s0] 9)).alloc (.cells #[.slice (some ⟨wc.heap.size, 0, none⟩) 1 1] 59)).setCell ⟨wc.heap.size, 0, none⟩ (.string ⟨#[84, 73, 77, 69, 79, 85, 84]⟩) = ((wc.alloc (.cells #[.string (sA sTO)] 9)).alloc (.cells #[.slice (some ⟨wc.heap.size, 0, none⟩) 1 1] 59)) := by
    rw [World.setCell_alloc_past _ _ _ _ (by simp), World.setCell_alloc_at _ _ _ _ _ rfl]
    rfl
  rw [e1]
  exact h
def TxR (e : Ev) (n f b p base : Nat) (w : World) (iv : Value) (wr : World) : Prop := ∃ (k : Nat) (A : Option Addr) (c : Nat), k ≤ (fldsT.getD n []).length ∧ iv = .int .i64 k ∧ TxS e n f b p base w wr (word0 e :: ((fldsT.getD n []).take k).map (fieldL e)) A c
attribute [-simp] Tryz.isAgg56 Tryz.sizeOf56
theorem text_p (e : Ev) (hh : 0 ≤ e.ball.how) (w : World) (hw : LibW w) : Calls Tryz.prog 10 #[evV e] w fun e' w' => e' = .returned (.tuple #[.string (sA (TxtE e).1), .int .i64 (TxtE e).2]) ∧ Below w.heap.size w w' := by
  have hbx := cur_new w (.cells (evE e).toArray 29)
  have hblk := Blk.new w 29 (evE e)
  obtain ⟨w1, hw1⟩ : ∃ y, w.alloc (.cells (evE e).toArray 29) = y := ⟨_, rfl⟩
  rw [hw1] at hbx hblk
  have SW1 := Lib.hid (show w.alloc (.cells #[.int .u8 e.kind, .int .i64 e.side, .int .i64 e.player, .int .i64 e.other, .bool e.yes, .int .i64 e.runs, .int .i64 e.overs, .int .u8 e.ball.ty, .int .u8 e.ball.src, .int .i64 e.ball.runs, .int .i64 e.ball.short, .int .i64 e.ball.bd, .bool e.ball.cr, .int .u8 e.ball.how, .int .i64 e.ball.vic, .int .i64 e.ball.fd, .int .i64 e.ball.sd, .bool e.ball.sub, .int .i64 e.ball.sec] 29) = w1 from hw1)
  have HK := Lib.hid hblk
  have HB := Lib.hid hbx
  obtain ⟨b, hb⟩ : ∃ b, w.heap.size = b := ⟨_, rfl⟩
  rw [hb] at HK
  have HBB := Lib.hid hb
  clear hw1 hbx hblk hb
  by_cases hc : chkE e = 0
  case neg =>
    have HR := Lib.hid (show TxtE e = ([], chkE e) by unfold TxtE; rw [if_pos hc])
    obtain ⟨v, hv⟩ : ∃ v, chkE e = v := ⟨_, rfl⟩
    rw [hv] at HR hc
    have HV := Lib.hid hv
    have g1 : (v != 0) = true := by simpa using hc
    clear hc hv
    unfold evV
    go_enter Tryz.func10, Tryz.ntmps10
    go_wp2_with (first | rw [SW1.out, HBB.out] | (refine wpList_loadC rfl _ 29 rfl b 29 (evE e) _ rfl (by rfl) (by rfl) (by rfl) HK.out ?_))
    refine (chke_p e w1).mono ?_
    rintro e' w2 ⟨rfl, hb2⟩
    rw [HV.out]
    go_wp2_with (fail)
    go_ret2
    rw [HR.out]
    exact ⟨rfl, cur_step1 HB.out hb2⟩
  have hok := okE_of hc
  have HR := Lib.hid (show TxtE e = (txtE e, 0) by unfold TxtE; rw [if_neg (by simpa using hc)])
  have hkb : 1 ≤ e.kind ∧ e.kind ≤ 16 := hok.kind
  obtain ⟨n, hn, hkn⟩ : ∃ n : Nat, n < 16 ∧ e.kind = (n : Int) + 1 := ⟨(e.kind - 1).toNat, by omega, by omega⟩
  have HC := Lib.hid hc
  have HOK := Lib.hid hok
  have HKN := Lib.hid hkn
  unfold evV
  clear hc hok hkb hkn
  go_enter Tryz.func10, Tryz.ntmps10
  go_wp2_with (first | rw [SW1.out, HBB.out] | (refine wpList_loadC rfl _ 29 rfl b 29 (evE e) _ rfl (by rfl) (by rfl) (by rfl) HK.out ?_))
  refine (chke_p e w1).mono ?_
  rintro e' w2 ⟨rfl, hb2⟩
  rw [HC.out]
  generalize Value.agg #[.int .u8 e.kind, .int .i64 e.side, .int .i64 e.player, .int .i64 e.other, .bool e.yes, .int .i64 e.runs, .int .i64 e.overs, .int .u8 e.ball.ty, .int .u8 e.ball.src, .int .i64 e.ball.runs, .int .i64 e.ball.short, .int .i64 e.ball.bd, .bool e.ball.cr, .int .u8 e.ball.how, .int .i64 e.ball.vic, .int .i64 e.ball.fd, .int .i64 e.ball.sd, .bool e.ball.sub, .int .i64 e.ball.sec] = av
  have HK2 := Lib.hid (HK.out.to hb2)
  have HB2 := Lib.hid (cur_step1 HB.out hb2)
  have hk0 : w2.cell? ⟨b, 0, none⟩ = some (.int .u8 ((n : Int) + 1)) := by rw [HK2.out.cell]; show some (Value.int .u8 e.kind) = _; rw [HKN.out]
  have hbl := HK2.out.lt
  have hw8 := wrap8s hn
  clear SW1 hb2 HK
  obtain ⟨s0, hs0⟩ : ∃ y, sA (wordT.getD n []) = y := ⟨_, rfl⟩
  have HF0 := Lib.hid (show fmL[n * 4 + 0]? = some (.string s0) by rw [← hs0]; exact fm_at hn (by decide))
  have NS0 := Lib.hid hs0
  clear hs0
  obtain ⟨s1, hs1⟩ : ∃ y, sA (fldsT.getD n []) = y := ⟨_, rfl⟩
  have HF1 := Lib.hid (show fmL[n * 4 + 1]? = some (.string s1) by rw [← hs1]; exact fm_at hn (by decide))
  have NS1 := Lib.hid hs1
  clear hs1
  obtain ⟨s2, hs2⟩ : ∃ y, sA (yesT.getD n []) = y := ⟨_, rfl⟩
  have HF2 := Lib.hid (show fmL[n * 4 + 2]? = some (.string s2) by rw [← hs2]; exact fm_at hn (by decide))
  have NS2 := Lib.hid hs2
  clear hs2
  obtain ⟨s3, hs3⟩ : ∃ y, sA (noT.getD n []) = y := ⟨_, rfl⟩
  have HF3 := Lib.hid (show fmL[n * 4 + 3]? = some (.string s3) by rw [← hs3]; exact fm_at hn (by decide))
  have NS3 := Lib.hid hs3
  clear hs3
  have HF := Lib.hid (And.intro HF0.out (And.intro HF1.out (And.intro HF2.out HF3.out)))
  have hn1 : (n : Int) < 16 := by omega
  have hn0 : (0 : Int) ≤ n := by omega
  have hn2 : ((n : Int)).toNat = n := rfl
  have hw9 : IntKind.u8.wrap (n : Int) = n := by have := hw8; rwa [show (n : Int) + 1 - 1 = n by omega] at this
  go_upto_region 4 with (fail)
  go_cut [5] (fun v wx => ∃ f, v = .pointer (some ⟨f, 0, none⟩) ∧ Blk wx f 56 (fmE n) ∧ Blk wx b 29 (evE e) ∧ w2.heap.size ≤ f ∧ Below w2.heap.size w2 wx)
  case first =>
    obtain ⟨N, hN⟩ : ∃ N : Nat, N = 4 := ⟨_, rfl⟩
    have hA : ∀ w, Sem.run Tryz.prog (isAgg 56) w = .ok true w := fun w => Tryz.isAgg56 w
    have hZ : ∀ w, Sem.run Tryz.prog (sizeOf 56) w = .ok N w := fun w => by rw [hN]; exact Tryz.sizeOf56 w
    have HN := Lib.hid (show (fmE n).length = N by rw [hN]; rfl)
    have HXS := Lib.hid (show ∀ (j : Nat) (v : Value), (fmE n)[j]? = some v → fmL[n * 4 + j]? = some v from fun j v hv => (fm_at hn (by have := (List.getElem?_eq_some_iff.1 hv).1; exact this)).trans hv)
    clear hN
    go_region_with (refine (forms_q _).mono ?_; rintro e' w3 ⟨rfl, qf, qb⟩; have k0' : w3.cell? ⟨b, 0, none⟩ = some (.int .u8 ((n : Int) + 1)) := (qb.cell (p := ⟨b, 0, none⟩) (by first | exact hbl | (simp only [World.size_drew, World.size_alloc]; omega))).trans (by first | exact hk0 | exact ((cur_new w2 _).cell (p := ⟨b, 0, none⟩) hbl).trans hk0); have ql := qf.lt; have qbl : b < w3.heap.size := (by first | (simp only [World.size_drew, World.size_alloc] at ql; omega) | omega); have hl1 := form_load qf HXS.out rfl HN.out; have hl2 := form_load (qf.to (cur_new w3 (.cells #[.string ⟨#[]⟩, .string ⟨#[]⟩, .string ⟨#[]⟩, .string ⟨#[]⟩] 56))) HXS.out rfl HN.out; have hs1 := form_store n (Blk.new w3 56 [.string ⟨#[]⟩, .string ⟨#[]⟩, .string ⟨#[]⟩, .string ⟨#[]⟩]); have hlen : ((fmE n).length = N) = True := eq_true HN.out; have k0z : (w3.alloc (.cells #[.string ⟨#[]⟩, .string ⟨#[]⟩, .string ⟨#[]⟩, .string ⟨#[]⟩] 56)).cell? ⟨b, 0, none⟩ = some (.int .u8 ((n : Int) + 1)) := ((cur_new w3 _).cell (p := ⟨b, 0, none⟩) qbl).trans k0'; (try simp only [World.size_drew, World.size_alloc] at hl1 hl2 ql); (try have hs2 := form_store n (form_zero qb)))
    all_goals (go_wp2_with (fail))
    all_goals go_meet
    all_goals first | exact form_relA HK2.out ⟨qb.os, qb.tape, qb.output, qb.size, qb.block⟩ | exact form_relB HK2.out qb
  case rest =>
  obtain ⟨f, rfl, hbf, hbe, hf, hb⟩ := hcut
  have HBE := Lib.hid hbe
  have HBF := Lib.hid hbf
  have HBW := Lib.hid (cur_step1 HB2.out hb)
  have f0 : wc.cell? ⟨f, 0, none⟩ = some (.string s0) := by rw [← NS0.out]; exact hbf.cell 0
  have f1 : wc.cell? ⟨f, 1, none⟩ = some (.string s1) := by rw [← NS1.out]; exact hbf.cell 1
  have k0 : wc.cell? ⟨b, 0, none⟩ = some (.int .u8 ((n : Int) + 1)) := by rw [hbe.cell]; show some (Value.int .u8 e.kind) = _; rw [HKN.out]
  have k4 : wc.cell? ⟨b, 4, none⟩ = some (.bool e.yes) := hbe.cell 4
  have lf := hbf.lt
  have lb := hbe.lt
  have lw := HBW.out.size
  have HFB := Lib.hid (show b < f by omega)
  clear hbf hbe hf hb hk0 hbl hw8 hw9 hn2 HB HB2 HK2
  obtain ⟨base, hbase⟩ : ∃ y, wc.heap.size = y := ⟨_, rfl⟩
  have HBS := Lib.hid hbase
  obtain ⟨tv, htv⟩ : ∃ y, decide (n = 4 ∧ e.yes = true) = y := ⟨_, rfl⟩
  have HTV := Lib.hid htv
  clear htv
  obtain ⟨ey, hey⟩ : ∃ y, e.yes = y := ⟨_, rfl⟩
  rw [hey] at k4
  have HEY := Lib.hid hey
  clear hey
  obtain ⟨W5, hW5⟩ : ∃ y, ((wc.alloc (.cells #[.string s0] 9)).alloc (.cells #[.slice (some ⟨wc.heap.size, 0, none⟩) 1 1] 59)) = y := ⟨_, rfl⟩
  have HS5 := Lib.hid (show TxS e n f b (base + 1) base w W5 [wordT.getD n []] (some ⟨base, 0, none⟩) 1 by rw [← hW5, ← HBS.out, ← NS0.out]; exact tx_new HBF.out HBE.out HBW.out _)
  have HSO := Lib.hid (show TxS e n f b (base + 1) base w (W5.setCell ⟨base, 0, none⟩ (.string ⟨#[84, 73, 77, 69, 79, 85, 84]⟩)) [sTO] (some ⟨base, 0, none⟩) 1 by rw [← hW5, ← HBS.out]; exact tx_time HBF.out HBE.out HBW.out _)
  have h50 : W5.cell? ⟨b, 0, none⟩ = some (.int .u8 ((n : Int) + 1)) := by rw [HS5.out.ev.cell]; show some (Value.int .u8 e.kind) = _; rw [HKN.out]
  have h54 : W5.cell? ⟨b, 4, none⟩ = some (.bool ey) := by rw [← HEY.out]; exact HS5.out.ev.cell 4
  have h5b := HS5.out.ev.lt
  have h5p := HS5.out.wd.box.cell 0
  simp only [List.getElem?_cons_zero] at h5p
  have hw8 := wrap8s hn
  rw [hbase] at hW5
  have HW5 := Lib.hid hW5
  clear hW5 hbase k0 k4 lb
  go_upto_region 6 with (fail)
  rw [HBS.out, HW5.out]
  go_cut [32] (fun v wx => v = .bool tv ∧ wx = W5)
  case first =>
    by_cases h4 : n = 4
    · subst h4
      have HT2 := Lib.hid (show tv = ey by rw [← HTV.out, HEY.out]; cases ey <;> rfl)
      cases ey
      · go_wp2_with (fail)
        go_meet
        case rel => exact ⟨by rw [HT2.out], rfl⟩
      · go_wp2_with (fail)
        go_meet
        case rel => exact ⟨by rw [HT2.out], rfl⟩
    · have g4 : ((n : Int) + 1 == 5) = false := by simp; omega
      have HT2 := Lib.hid (show tv = false by rw [← HTV.out]; simp [h4])
      clear h4
      go_wp2_with (fail)
      go_meet
      case rel => exact ⟨by rw [HT2.out], rfl⟩
  case rest =>
  obtain ⟨rfl, rfl⟩ := hcut
  go_upto_if 32 with (fail)
  go_cut [] (fun wx => TxS e n f b (base + 1) base w wx [word0 e] (some ⟨base, 0, none⟩) 1)
  case first =>
    cases tv
    · have HT := Lib.hid (show word0 e = wordT.getD n [] by unfold word0 wordL; rw [if_neg (fun q => by have := HTV.out; simp at this; exact absurd q.2 (by simpa using this (by have := q.1; have := HKN.out; omega))), HKN.out, show ((n : Int) + 1 - 1).toNat = n by omega])
      go_wp2_with (fail)
      go_meet
      case rel =>
        rw [HT.out]
        exact HS5.out
    · have HT := Lib.hid (show word0 e = sTO by unfold word0; rw [if_pos (by have := HTV.out; simp at this; exact ⟨by rw [HKN.out, this.1]; rfl, this.2⟩)])
      have h5z := HS5.out.wd.own
      have z1 : wc.cell? ⟨base, 0, none⟩ = some (.string s0) := by rw [← NS0.out]; exact (HS5.out.wd.own.cells (g := base) rfl 0 _ rfl)
      have z2 : wc.frozen? ⟨base, 0, none⟩ = false := HS5.out.wd.own.frozenAt 0
      have z3 : base < wc.heap.size := (own_block_lt HS5.out.wd.own rfl).2
      go_wp2_with (fail)
      go_meet
      case rel =>
        rw [HT.out]
        exact HSO.out
  case rest =>
  have HS := Lib.hid hcut
  have HWBASE := Lib.hid (show w.heap.size ≤ base by have := HBW.out.size; have := HBS.out; omega)
  have HFBASE := Lib.hid (show f < base by have := HBF.out.lt; have := HBS.out; omega)
  have HBBASE := Lib.hid (show b < base by have := HBE.out.lt; have := HBS.out; omega)
  clear hcut HBW HBS HBF HBE HTV
  obtain ⟨nl, hnl⟩ : ∃ y, noT.getD n [] = y := ⟨_, rfl⟩
  have HNL := Lib.hid hnl
  obtain ⟨yl, hyl⟩ : ∃ y, yesT.getD n [] = y := ⟨_, rfl⟩
  have HYL := Lib.hid hyl
  clear hnl hyl
  obtain ⟨FL, hFL⟩ : ∃ y, fldsT.getD n [] = y := ⟨_, rfl⟩
  have hfl2 : FL.length ≤ 2 := by rw [← hFL]; exact flds_len hn
  have HFL := Lib.hid hFL
  have HSF := Lib.hid (show sA FL = s1 by rw [← hFL]; exact NS1.out)
  have hsz1 : s1.size = FL.length := by rw [← HSF.out]; rfl
  have f1 : wc.cell? ⟨f, 1, none⟩ = some (.string s1) := by rw [← NS1.out]; exact HS.out.fm.cell 1
  have HH := Lib.hid hh
  have HL := Lib.hid hw
  clear hFL hh hw
  go_wp2_with (fail)
  go_loopw [39] (TxR e n f b (base + 1) base w) (fun i _ => FL.length - (intOf i).toNat)
  case atStart => exact ⟨0, some ⟨base, 0, none⟩, 1, by omega, rfl, HS.out⟩
  case round =>
    obtain ⟨k, A, cc, hk, rfl, hS⟩ := hrel
    rw [HFL.out] at hk hS
    have HS := Lib.hid hS
    obtain ⟨WL, hWL⟩ : ∃ y, word0 e :: (FL.take k).map (fieldL e) = y := ⟨_, rfl⟩
    rw [hWL] at HS
    have HWL := Lib.hid hWL
    have hwm : WL.length ≤ 3 := by rw [← hWL]; simp; omega
    clear hS hWL
    have f1 : wr.cell? ⟨f, 1, none⟩ = some (.string s1) := by rw [← NS1.out]; exact HS.out.fm.cell 1
    have f2 : wr.cell? ⟨f, 2, none⟩ = some (.string s2) := by rw [← NS2.out]; exact HS.out.fm.cell 2
    have f3 : wr.cell? ⟨f, 3, none⟩ = some (.string s3) := by rw [← NS3.out]; exact HS.out.fm.cell 3
    have u0 : wr.cell? ⟨base + 1, 0, none⟩ = some (.slice A WL.length cc) := HS.out.wd.box.cell 0
    have u1 := HS.out.wd.box.lt
    have u2 := HS.out.wd.box.frozen 0
    by_cases hkl : k < FL.length
    · obtain ⟨c, hck⟩ : ∃ c, FL[k]? = some c := ⟨_, List.getElem?_eq_getElem hkl⟩
      obtain ⟨hz, hsj⟩ := sA_at HSF.out hck
      have h256 : c.toNat < 256 := c.toNat_lt
      have HCM := Lib.hid (List.mem_of_getElem? hck)
      have HFT := Lib.hid (fits_of HOK.out hn HKN.out (c := c) (by rw [HFL.out]; exact HCM.out))
      have HCK := Lib.hid hck
      have HK8 := Lib.hid (show k + 1 ≤ (fldsT.getD n []).length by rw [HFL.out]; exact hkl)
      have HTK := Lib.hid (show WL ++ [fieldL e c] = word0 e :: ((fldsT.getD n []).take (k + 1)).map (fieldL e) by rw [← HWL.out, HFL.out, List.take_add_one, HCK.out]; simp)
      clear hck
      have hm := flds_mem hn c (by rw [HFL.out]; exact HCM.out)
      simp only [allC, List.mem_cons, List.not_mem_nil, or_false] at hm
      rcases hm with hm | hm | hm | hm | hm | hm | hm
      · have HCE := Lib.hid hm
        have hcn : c.toNat = 115 := by rw [hm]; rfl
        clear hm
        have HFE := Lib.hid (show fieldL e c = dcB e.side by rw [HCE.out]; rfl)
        have hrng : 0 ≤ e.side ∧ e.side ≤ 1000000 := by have := HFT.out; rw [HCE.out] at this; exact btw_le this (by decide) (by decide)
        have v1 : wr.cell? ⟨b, 1, none⟩ = some (.int .i64 e.side) := HS.out.ev.cell 1
        have HRG := Lib.hid hrng
        clear hrng
        go_wp2_with (fail)
        refine (text1_p e.side HRG.out.1 HRG.out.2 (base + 1) base _ (by omega) A cc wr (HL.out.to HS.out.bl) HS.out.wd (by have := HS.out.wd.box.lt; omega)).mono ?_
        rintro e' w6 ⟨rfl, A', c', hwd, hkp⟩
        rw [← HFE.out, HTK.out] at hwd
        have HN := Lib.hid (HS.out.kp hkp hwd (by omega) HFBASE.out HBBASE.out HWBASE.out)
        clear hwd hkp
        go_wp2_with (fail)
        exact ⟨⟨k + 1, A', c', HK8.out, rfl, HN.out⟩, by show FL.length - (k + 1) < FL.length - k; omega⟩
      · have HCE := Lib.hid hm
        have hcn : c.toNat = 112 := by rw [hm]; rfl
        clear hm
        have HFE := Lib.hid (show fieldL e c = dcB e.player by rw [HCE.out]; rfl)
        have hrng : 0 ≤ e.player ∧ e.player ≤ 1000000 := by have := HFT.out; rw [HCE.out] at this; exact btw_le this (by decide) (by decide)
        have v2 : wr.cell? ⟨b, 2, none⟩ = some (.int .i64 e.player) := HS.out.ev.cell 2
        have HRG := Lib.hid hrng
        clear hrng
        go_wp2_with (fail)
        refine (text1_p e.player HRG.out.1 HRG.out.2 (base + 1) base _ (by omega) A cc wr (HL.out.to HS.out.bl) HS.out.wd (by have := HS.out.wd.box.lt; omega)).mono ?_
        rintro e' w6 ⟨rfl, A', c', hwd, hkp⟩
        rw [← HFE.out, HTK.out] at hwd
        have HN := Lib.hid (HS.out.kp hkp hwd (by omega) HFBASE.out HBBASE.out HWBASE.out)
        clear hwd hkp
        go_wp2_with (fail)
        exact ⟨⟨k + 1, A', c', HK8.out, rfl, HN.out⟩, by show FL.length - (k + 1) < FL.length - k; omega⟩
      · have HCE := Lib.hid hm
        have hcn : c.toNat = 111 := by rw [hm]; rfl
        clear hm
        have HFE := Lib.hid (show fieldL e c = dcB e.other by rw [HCE.out]; rfl)
        have hrng : 0 ≤ e.other ∧ e.other ≤ 1000000 := by have := HFT.out; rw [HCE.out] at this; exact btw_le this (by decide) (by decide)
        have v3 : wr.cell? ⟨b, 3, none⟩ = some (.int .i64 e.other) := HS.out.ev.cell 3
        have HRG := Lib.hid hrng
        clear hrng
        go_wp2_with (fail)
        refine (text1_p e.other HRG.out.1 HRG.out.2 (base + 1) base _ (by omega) A cc wr (HL.out.to HS.out.bl) HS.out.wd (by have := HS.out.wd.box.lt; omega)).mono ?_
        rintro e' w6 ⟨rfl, A', c', hwd, hkp⟩
        rw [← HFE.out, HTK.out] at hwd
        have HN := Lib.hid (HS.out.kp hkp hwd (by omega) HFBASE.out HBBASE.out HWBASE.out)
        clear hwd hkp
        go_wp2_with (fail)
        exact ⟨⟨k + 1, A', c', HK8.out, rfl, HN.out⟩, by show FL.length - (k + 1) < FL.length - k; omega⟩
      · have HCE := Lib.hid hm
        have hcn : c.toNat = 121 := by rw [hm]; rfl
        clear hm
        cases ey
        · have HFE := Lib.hid (show fieldL e c = nl by rw [HCE.out]; show (if e.yes then yesL e.kind else noL e.kind) = _; rw [HEY.out]; unfold yesL noL; rw [HKN.out, show ((n : Int) + 1 - 1).toNat = n by omega]; exact HNL.out)
          have v4 : wr.cell? ⟨b, 4, none⟩ = some (.bool false) := by rw [← HEY.out]; exact HS.out.ev.cell 4
          have HSV := Lib.hid (show stE nl = [.string s3] by unfold stE; rw [← HNL.out, NS3.out])
          go_wp2_with (at_builtin; refine wpList_app1 Tryz.stElem _ rfl (.tmp 96) (.tmp 98) rfl base A cc _ rfl ?o1 nl wr.heap.size 1 rfl ?o2 ?o3 ?o4 ?o5 ?_)
          case o1 => exact World.ownsRow.alloc (HS.out).wd.own _
          case o2 => first | (rw [HSV.out]; exact heap_alloc_new _ _) | exact heap_alloc_new _ _
          case o3 => unfold maxLen; omega
          case o4 => omega
          case o5 => have := (HS.out).wd.box.lt; first | omega | (simp; omega)
          intro g cap w7 ha
          have hadd := (HS.out).wd.add (cur_new wr _) ha
          have e0 : w7.cell? ⟨base + 1, 0, none⟩ = some (.slice A WL.length cc) := hadd.2.2.cell 0
          have e1 := hadd.2.2.frozen 0
          have e2 := hadd.2.2.lt
          have hwd := hadd.1
          rw [← HFE.out, HTK.out] at hwd
          have HN := Lib.hid ((HS.out).kp hadd.2.1 hwd (by omega) HFBASE.out HBBASE.out HWBASE.out)
          have HLN := Lib.hid (show WL.length + 1 = (word0 e :: ((fldsT.getD n []).take (k + 1)).map (fieldL e)).length by rw [← HTK.out, List.length_append]; rfl)
          clear ha hadd hwd
          go_wp2_with (fail)
          exact ⟨⟨k + 1, some ⟨g, 0, none⟩, cap, HK8.out, rfl, HN.out⟩, by show FL.length - (k + 1) < FL.length - k; omega⟩
        · have HFE := Lib.hid (show fieldL e c = yl by rw [HCE.out]; show (if e.yes then yesL e.kind else noL e.kind) = _; rw [HEY.out]; unfold yesL noL; rw [HKN.out, show ((n : Int) + 1 - 1).toNat = n by omega]; exact HYL.out)
          have v4 : wr.cell? ⟨b, 4, none⟩ = some (.bool true) := by rw [← HEY.out]; exact HS.out.ev.cell 4
          have HSV := Lib.hid (show stE yl = [.string s2] by unfold stE; rw [← HYL.out, NS2.out])
          go_wp2_with (at_builtin; refine wpList_app1 Tryz.stElem _ rfl (.tmp 96) (.tmp 98) rfl base A cc _ rfl ?o1 yl wr.heap.size 1 rfl ?o2 ?o3 ?o4 ?o5 ?_)
          case o1 => exact World.ownsRow.alloc (HS.out).wd.own _
          case o2 => first | (rw [HSV.out]; exact heap_alloc_new _ _) | exact heap_alloc_new _ _
          case o3 => unfold maxLen; omega
          case o4 => omega
          case o5 => have := (HS.out).wd.box.lt; first | omega | (simp; omega)
          intro g cap w7 ha
          have hadd := (HS.out).wd.add (cur_new wr _) ha
          have e0 : w7.cell? ⟨base + 1, 0, none⟩ = some (.slice A WL.length cc) := hadd.2.2.cell 0
          have e1 := hadd.2.2.frozen 0
          have e2 := hadd.2.2.lt
          have hwd := hadd.1
          rw [← HFE.out, HTK.out] at hwd
          have HN := Lib.hid ((HS.out).kp hadd.2.1 hwd (by omega) HFBASE.out HBBASE.out HWBASE.out)
          have HLN := Lib.hid (show WL.length + 1 = (word0 e :: ((fldsT.getD n []).take (k + 1)).map (fieldL e)).length by rw [← HTK.out, List.length_append]; rfl)
          clear ha hadd hwd
          go_wp2_with (fail)
          exact ⟨⟨k + 1, some ⟨g, 0, none⟩, cap, HK8.out, rfl, HN.out⟩, by show FL.length - (k + 1) < FL.length - k; omega⟩
      · have HCE := Lib.hid hm
        have hcn : c.toNat = 114 := by rw [hm]; rfl
        clear hm
        have HFE := Lib.hid (show fieldL e c = dcB e.runs by rw [HCE.out]; rfl)
        have hrng : 0 ≤ e.runs ∧ e.runs ≤ 1000000 := by have := HFT.out; rw [HCE.out] at this; exact runs_le this
        have v5 : wr.cell? ⟨b, 5, none⟩ = some (.int .i64 e.runs) := HS.out.ev.cell 5
        have HRG := Lib.hid hrng
        clear hrng
        go_wp2_with (fail)
        refine (text1_p e.runs HRG.out.1 HRG.out.2 (base + 1) base _ (by omega) A cc wr (HL.out.to HS.out.bl) HS.out.wd (by have := HS.out.wd.box.lt; omega)).mono ?_
        rintro e' w6 ⟨rfl, A', c', hwd, hkp⟩
        rw [← HFE.out, HTK.out] at hwd
        have HN := Lib.hid (HS.out.kp hkp hwd (by omega) HFBASE.out HBBASE.out HWBASE.out)
        clear hwd hkp
        go_wp2_with (fail)
        exact ⟨⟨k + 1, A', c', HK8.out, rfl, HN.out⟩, by show FL.length - (k + 1) < FL.length - k; omega⟩
      · have HCE := Lib.hid hm
        have hcn : c.toNat = 118 := by rw [hm]; rfl
        clear hm
        have HFE := Lib.hid (show fieldL e c = dcB e.overs by rw [HCE.out]; rfl)
        have hrng : 0 ≤ e.overs ∧ e.overs ≤ 1000000 := by have := HFT.out; rw [HCE.out] at this; exact btw_le this (by decide) (by decide)
        have v6 : wr.cell? ⟨b, 6, none⟩ = some (.int .i64 e.overs) := HS.out.ev.cell 6
        have HRG := Lib.hid hrng
        clear hrng
        go_wp2_with (fail)
        refine (text1_p e.overs HRG.out.1 HRG.out.2 (base + 1) base _ (by omega) A cc wr (HL.out.to HS.out.bl) HS.out.wd (by have := HS.out.wd.box.lt; omega)).mono ?_
        rintro e' w6 ⟨rfl, A', c', hwd, hkp⟩
        rw [← HFE.out, HTK.out] at hwd
        have HN := Lib.hid (HS.out.kp hkp hwd (by omega) HFBASE.out HBBASE.out HWBASE.out)
        clear hwd hkp
        go_wp2_with (fail)
        exact ⟨⟨k + 1, A', c', HK8.out, rfl, HN.out⟩, by show FL.length - (k + 1) < FL.length - k; omega⟩
      · have HCE := Lib.hid hm
        have hcn : c.toNat = 98 := by rw [hm]; rfl
        clear hm
        have hn3 := kind_ball hn (by rw [HFL.out, ← HCE.out]; exact HCM.out)
        have HFE := Lib.hid (show fieldL e c = prtD e.ball by rw [HCE.out]; rfl)
        have HCB := Lib.hid (HOK.out.ball (by rw [HKN.out, hn3]; rfl))
        have hcb := HS.out.ev.cell
        have v7 := hcb 7
        have v8 := hcb 8
        have v9 := hcb 9
        have v10 := hcb 10
        have v11 := hcb 11
        have v12 := hcb 12
        have v13 := hcb 13
        have v14 := hcb 14
        have v15 := hcb 15
        have v16 := hcb 16
        have v17 := hcb 17
        have v18 := hcb 18
        simp only [evE, delE, List.cons_append, List.nil_append, List.getElem?_cons_succ, List.getElem?_cons_zero] at v7 v8 v9 v10 v11 v12 v13 v14 v15 v16 v17 v18
        clear hcb
        go_wp2_with (fail)
        refine (print_p e.ball HCB.out HH.out _ (HL.out.to HS.out.bl)).mono ?_
        rintro e' w6 ⟨rfl, hb6⟩
        have HS6 := Lib.hid (HS.out.to hb6)
        clear hb6 v7 v8 v9 v10 v11 v12 v13 v14 v15 v16 v17 v18
        obtain ⟨sv, hsv⟩ : ∃ y, sA (prtD e.ball) = y := ⟨_, rfl⟩
        rw [hsv]
        have HSV := Lib.hid (show stE (prtD e.ball) = [.string sv] by rw [← hsv]; rfl)
        have u0 : w6.cell? ⟨base + 1, 0, none⟩ = some (.slice A WL.length cc) := HS6.out.wd.box.cell 0
        have u1 := HS6.out.wd.box.lt
        have u2 := HS6.out.wd.box.frozen 0
        clear hsv
        go_wp2_with (at_builtin; refine wpList_app1 Tryz.stElem _ rfl (.tmp 84) (.tmp 86) rfl base A cc _ rfl ?o1 (prtD e.ball) w6.heap.size 1 rfl ?o2 ?o3 ?o4 ?o5 ?_)
        case o1 => exact World.ownsRow.alloc (HS6.out).wd.own _
        case o2 => first | (rw [HSV.out]; exact heap_alloc_new _ _) | exact heap_alloc_new _ _
        case o3 => unfold maxLen; omega
        case o4 => omega
        case o5 => have := (HS6.out).wd.box.lt; first | omega | (simp; omega)
        intro g cap w7 ha
        have hadd := (HS6.out).wd.add (cur_new w6 _) ha
        have e0 : w7.cell? ⟨base + 1, 0, none⟩ = some (.slice A WL.length cc) := hadd.2.2.cell 0
        have e1 := hadd.2.2.frozen 0
        have e2 := hadd.2.2.lt
        have hwd := hadd.1
        rw [← HFE.out, HTK.out] at hwd
        have HN := Lib.hid ((HS6.out).kp hadd.2.1 hwd (by omega) HFBASE.out HBBASE.out HWBASE.out)
        have HLN := Lib.hid (show WL.length + 1 = (word0 e :: ((fldsT.getD n []).take (k + 1)).map (fieldL e)).length by rw [← HTK.out, List.length_append]; rfl)
        clear ha hadd hwd
        go_wp2_with (fail)
        exact ⟨⟨k + 1, some ⟨g, 0, none⟩, cap, HK8.out, rfl, HN.out⟩, by show FL.length - (k + 1) < FL.length - k; omega⟩
    · have hk9 : k = FL.length := by omega
      have g9 : ¬ k < FL.length := hkl
      have HW9 := Lib.hid (show WL = wordsE e by rw [← HWL.out]; unfold wordsE fldsL; rw [HKN.out, show ((n : Int) + 1 - 1).toNat = n by omega, HFL.out, hk9, List.take_length])
      have HFIN := Lib.hid (show txtE e = joinS (wordsE e) from rfl)
      clear hk9
      go_wp2_with (fail)
      have ho := HS.out.wd.own
      rw [HW9.out] at ho ⊢
      refine (join_own (by unfold wordsE; simp) (by rw [← HW9.out]; omega) (by have := txt_len HOK.out; omega) _ ho).mono ?_
      rintro e' w6 ⟨rfl, hb6⟩
      go_wp2_with (fail)
      go_ret2
      rw [HR.out]
      exact ⟨rfl, cur_step1 HS.out.bl hb6⟩
end Go.Proofs.YtgkjcapoddjkhaaGreatDoor
