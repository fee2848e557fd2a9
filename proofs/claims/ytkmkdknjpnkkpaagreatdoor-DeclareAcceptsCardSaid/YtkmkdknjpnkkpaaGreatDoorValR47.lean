/-
  Chapter 47: value and on of the reference.
-/
import Derived.Test.YtkmkdknjpnkkpaaGreatDoorMap47
import Derived.RegionTactic
import Derived.BigRegion
import Derived.BigQuiet
import Derived.Deep.RegionHeld3
import Derived.Deep.RegionWith
set_option linter.unusedSimpArgs false
set_option linter.unusedVariables false
namespace Go.Proofs.YtkmkdknjpnkkpaaGreatDoor
open Go.RowKit
set_option maxRecDepth 100000
set_option maxHeartbeats 1000000
/-- The memory's function: by number of overs and lead. -/
def vF (t : Tk) (m l : Int) : Int := valT t m.toNat l
def Gr (m : Int) (ks ks' : List (Int × Int)) : Prop := (∀ x ∈ ks, x ∈ ks') ∧ ∀ x ∈ ks', x ∈ ks ∨ x.2 ≤ m
theorem Gr.refl (m : Int) (ks : List (Int × Int)) : Gr m ks ks := ⟨fun _ h => h, fun _ h => .inl h⟩
theorem Gr.trans {m : Int} {a b c : List (Int × Int)} (h : Gr m a b) (h' : Gr m b c) : Gr m a c := ⟨fun x hx => h'.1 x (h.1 x hx), fun x hx => (h'.2 x hx).elim (fun h1 => h.2 x h1) .inr⟩
theorem Gr.mono {m n : Int} {a b : List (Int × Int)} (h : Gr m a b) (hn : m ≤ n) : Gr n a b := ⟨h.1, fun x hx => (h.2 x hx).imp id (fun h => by omega)⟩
theorem Gr.put {m l : Int} {a b : List (Int × Int)} (h : Gr m a b) : Gr m a (b ++ [(l, m)]) := ⟨fun x hx => List.mem_append_left _ (h.1 x hx), fun x hx => by
  rcases List.mem_append.1 hx with h1 | h1
  · exact h.2 x h1
  · simp at h1; subst h1; exact .inr (Int.le_refl _)⟩
def ValC (t : Tk) (m : Nat) : Prop := ∀ (A W : Option Addr) (c wc : Nat) (lead : Int) (b : Nat) (ks : List (Int × Int)) (w : World), (∃ B, B ≤ b ∧ Rd ocE 3 w B A t.d ∧ Rd2 w B W t.win) → -10000 ≤ lead ∧ lead + 7 * (m : Int) ≤ 10000 → Memo (vF t) w b ks →
    Calls Tryz.prog 30 #[tkV t A W c wc, .int .i64 lead, .int .i64 m, .map (some b)] w fun e w' => e = .returned (.int .i64 (valT t m lead)) ∧ (∃ ks', Memo (vF t) w' b ks' ∧ Gr m ks ks') ∧ Mb w w' b
def OnC (t : Tk) (m : Nat) : Prop := ∀ (A W : Option Addr) (c wc : Nat) (lead : Int) (b : Nat) (ks : List (Int × Int)) (w : World), (∃ B, B ≤ b ∧ Rd ocE 3 w B A t.d ∧ Rd2 w B W t.win) → -10000 ≤ lead ∧ lead + 7 * ((m : Int) + 1) ≤ 10000 → Memo (vF t) w b ks →
    Calls Tryz.prog 47 #[tkV t A W c wc, .int .i64 lead, .int .i64 (m + 1), .map (some b)] w fun e w' => e = .returned (.int .i64 (onS (fun r => valT t m (lead + r)) t.d)) ∧ (∃ ks', Memo (vF t) w' b ks' ∧ Gr m ks ks') ∧ Mb w w' b
theorem rd_mb {t : Tk} {A W : Option Addr} {w w' : World} {b : Nat} (h : ∃ B, B ≤ b ∧ Rd ocE 3 w B A t.d ∧ Rd2 w B W t.win) (hb : ∀ B, B ≤ b → Below B w w') : ∃ B, B ≤ b ∧ Rd ocE 3 w' B A t.d ∧ Rd2 w' B W t.win := by
  obtain ⟨B, h1, h2, h3⟩ := h
  exact ⟨B, h1, h2.below (hb B h1), h3.below (hb B h1)⟩
theorem rd_full {t : Tk} {A W : Option Addr} {w : World} {b : Nat} (h : ∃ B, B ≤ b ∧ Rd ocE 3 w B A t.d ∧ Rd2 w B W t.win) (hb : b < w.heap.size) : Rd ocE 3 w w.heap.size A t.d ∧ Rd2 w w.heap.size W t.win := by
  obtain ⟨B, h1, h2, h3⟩ := h
  exact ⟨h2.more (by omega), h3.more (by omega)⟩
theorem val_hit (t : Tk) (m : Nat) (hm11 : m ≤ 11) (A W : Option Addr) (c wc : Nat) (lead : Int) (b : Nat) (ks : List (Int × Int)) (w : World) (hl : -10000 ≤ lead ∧ lead + 7 * (m : Int) ≤ 10000) (hM : Memo (vF t) w b ks) (hin : (lead, (m : Int)) ∈ ks) :
    Calls Tryz.prog 30 #[tkV t A W c wc, .int .i64 lead, .int .i64 m, .map (some b)] w fun e w' => e = .returned (.int .i64 (valT t m lead)) ∧ (∃ ks', Memo (vF t) w' b ks' ∧ Gr m ks ks') ∧ Mb w w' b := by
  have hbx : Bx (lead, (m : Int)) := by unfold Bx; simp only []; omega
  have hb2 := cur_two w (.cells (tkL t A W c wc).toArray 25) (.cells #[.int .i64 lead, .int .i64 m] 72)
  unfold tkL at hb2
  have hlk := (hM.to hb2).look hbx
  rw [if_pos hin] at hlk
  have HM := Lib.hid (hM.to hb2)
  have HB := Lib.hid (Mb.of hb2 hM.lt)
  have HV := Lib.hid (show vF t m lead = valT t m lead by unfold vF; rw [Int.toNat_natCast])
  simp only [HV.out] at hlk
  clear hM hb2
  go_enter Tryz.func30, Tryz.ntmps30
  go_wp2
  go_ret
  exact ⟨rfl, ⟨ks, HM.out, Gr.refl _ _⟩, HB.out⟩
theorem val_zero (t : Tk) (hok : OkT t) (A W : Option Addr) (c wc : Nat) (lead : Int) (b : Nat) (ks : List (Int × Int)) (w : World) (hrd : ∃ B, B ≤ b ∧ Rd ocE 3 w B A t.d ∧ Rd2 w B W t.win) (hl : -10000 ≤ lead ∧ lead ≤ 10000) (hM : Memo (vF t) w b ks) (hin : (lead, (0 : Int)) ∉ ks) :
    Calls Tryz.prog 30 #[tkV t A W c wc, .int .i64 lead, .int .i64 0, .map (some b)] w fun e w' => e = .returned (.int .i64 (valT t 0 lead)) ∧ (∃ ks', Memo (vF t) w' b ks' ∧ Gr 0 ks ks') ∧ Mb w w' b := by
  have hbx : Bx (lead, 0) := by unfold Bx; simp only []; omega
  have hb2 := cur_two w (.cells (tkL t A W c wc).toArray 25) (.cells #[.int .i64 lead, .int .i64 0] 72)
  unfold tkL at hb2
  have hlk := (hM.to hb2).look hbx
  rw [if_neg hin] at hlk
  have HM := Lib.hid (hM.to hb2)
  have HB := Lib.hid (Mb.of hb2 hM.lt)
  have hlt := hM.lt
  have hlt2 := (hM.to hb2).lt
  have hk2 : Blk ((w.alloc (.cells (tkL t A W c wc).toArray 25)).alloc (.cells #[.int .i64 lead, .int .i64 0] 72)) w.heap.size 25 (tkL t A W c wc) := (Blk.new w _ _).to (cur_new _ _)
  have hy2 : Blk ((w.alloc (.cells (tkL t A W c wc).toArray 25)).alloc (.cells #[.int .i64 lead, .int .i64 0] 72)) (w.heap.size + 1) 72 [.int .i64 lead, .int .i64 0] := two_new w _ _
  have HRD := Lib.hid (rd_mb hrd (fun B hB => (HB.out.below B w (Below.refl _ _) hB)))
  clear hM hb2 hrd
  unfold tkL at hk2 hy2
  go_enter Tryz.func30, Tryz.ntmps30
  go_wp2_with fail
  generalize (w.alloc (Obj.cells #[.int .i64 t.ov, .int .i64 t.ld, .int .i64 t.sp, .slice A t.d.length c, .slice W t.win.length wc] 25)).alloc (Obj.cells #[.int .i64 lead, .int .i64 0] 72) = w2 at *
  have HF := Lib.hid (rd_full HRD.out hlt2)
  refine (now_r t A W c wc lead _ 0 _ hok (by have := hok.ov; omega) HF.out.1 HF.out.2 (by omega) rfl).mono ?_
  rintro e w3 ⟨rfl, hb3⟩
  have HM3 := Lib.hid (HM.out.to hb3)
  have HB3 := Lib.hid (HB.out.trans (Mb.of hb3 hlt2))
  have y0 : w3.cell? ⟨w.heap.size + 1, 0, none⟩ = some (.int .i64 lead) := (hy2.to hb3).cell 0
  have y1 : w3.cell? ⟨w.heap.size + 1, 1, none⟩ = some (.int .i64 0) := (hy2.to hb3).cell 1
  have hbd := hok.now (m := 0) (by have := hok.ov; omega) lead
  have HV := Lib.hid (show vF t 0 lead = nowT t lead 0 from rfl)
  have HV2 := Lib.hid (show nowT t lead 0 = valT t 0 lead from rfl)
  have hyr : I64 (nowT t lead 0) := by
    have h1 := P16_le (show 0 + 1 ≤ 12 by omega)
    rw [P16_12] at h1
    unfold I64; omega
  clear hlk hk2 hy2 hb3 hbd
  go_wp2_with (refine wpList_memoPut rfl _ _ _ rfl b ks lead 0 (nowT t lead 0) rfl rfl rfl HM3.out hbx hin HV.out hyr ?_; intro w4 hm4 hb4; have HM4 := Lib.hid hm4; have HB4 := Lib.hid (HB3.out.trans hb4); clear hm4 hb4)
  go_ret
  exact ⟨ret_int HV2.out, ⟨_, HM4.out, Gr.put (Gr.refl _ _)⟩, HB4.out⟩
theorem val_succ (t : Tk) (hok : OkT t) (m : Nat) (hm : (m : Int) + 1 ≤ t.ov) (hon : OnC t m) (A W : Option Addr) (c wc : Nat) (lead : Int) (b : Nat) (ks : List (Int × Int)) (w : World) (hrd : ∃ B, B ≤ b ∧ Rd ocE 3 w B A t.d ∧ Rd2 w B W t.win) (hl : -10000 ≤ lead ∧ lead + 7 * ((m : Int) + 1) ≤ 10000) (hM : Memo (vF t) w b ks) (hin : (lead, (m : Int) + 1) ∉ ks) :
    Calls Tryz.prog 30 #[tkV t A W c wc, .int .i64 lead, .int .i64 (m + 1), .map (some b)] w fun e w' => e = .returned (.int .i64 (valT t (m + 1) lead)) ∧ (∃ ks', Memo (vF t) w' b ks' ∧ Gr ((m : Int) + 1) ks ks') ∧ Mb w w' b := by
  have HON := Lib.hid hon
  clear hon
  have hov := hok.ov
  have hbx : Bx (lead, (m : Int) + 1) := by unfold Bx; simp only []; omega
  have hb2 := cur_two w (.cells (tkL t A W c wc).toArray 25) (.cells #[.int .i64 lead, .int .i64 (m + 1)] 72)
  unfold tkL at hb2
  have hlk := (hM.to hb2).look hbx
  rw [if_neg hin] at hlk
  have HM := Lib.hid (hM.to hb2)
  have HB := Lib.hid (Mb.of hb2 hM.lt)
  have hlt := hM.lt
  have hlt2 := (hM.to hb2).lt
  have hk2 : Blk ((w.alloc (.cells (tkL t A W c wc).toArray 25)).alloc (.cells #[.int .i64 lead, .int .i64 (m + 1)] 72)) w.heap.size 25 (tkL t A W c wc) := (Blk.new w _ _).to (cur_new _ _)
  have hy2 : Blk ((w.alloc (.cells (tkL t A W c wc).toArray 25)).alloc (.cells #[.int .i64 lead, .int .i64 (m + 1)] 72)) (w.heap.size + 1) 72 [.int .i64 lead, .int .i64 (m + 1)] := two_new w _ _
  have HRD := Lib.hid (rd_mb hrd (fun B hB => (HB.out.below B w (Below.refl _ _) hB)))
  clear hM hb2 hrd
  unfold tkL at hk2 hy2
  go_enter Tryz.func30, Tryz.ntmps30
  go_wp2_with fail
  generalize (w.alloc (Obj.cells #[.int .i64 t.ov, .int .i64 t.ld, .int .i64 t.sp, .slice A t.d.length c, .slice W t.win.length wc] 25)).alloc (Obj.cells #[.int .i64 lead, .int .i64 (m + 1)] 72) = w2 at *
  have HF := Lib.hid (rd_full HRD.out hlt2)
  refine (now_r t A W c wc lead _ (m + 1) _ hok (by omega) HF.out.1 HF.out.2 (by omega) rfl).mono ?_
  rintro e w3 ⟨rfl, hb3⟩
  have HM3 := Lib.hid (HM.out.to hb3)
  have HB3 := Lib.hid (HB.out.trans (Mb.of hb3 hlt2))
  have HY3 := Lib.hid (hy2.to hb3)
  have hk3 := hk2.to hb3
  have HRD3 := Lib.hid (rd_mb HRD.out (fun B hB => ((Mb.of hb3 hlt2).below B w2 (Below.refl _ _) hB)))
  obtain ⟨t0, t1, t2, t3, t4⟩ := tk_cells hk3
  have hlt3 := HM3.out.lt
  have l0 : w.heap.size < w3.heap.size := hk3.lt
  clear hlk hk2 hy2 hb3 hk3
  generalize hnv : nowT t lead (m + 1) = nv at *
  have HON2 := Lib.hid (HON.out A W c wc lead b ks w3 HRD3.out (by omega) HM3.out)
  have HVT := Lib.hid (show valT t (m + 1) lead = max nv (onS (fun r => valT t m (lead + r)) t.d) by rw [valT, hnv])
  have hyr : I64 (valT t (m + 1) lead) := by
    have h1 := P16_le (show m + 1 + 1 ≤ 12 by omega)
    rw [P16_12] at h1
    have h2 := hok.val (m := m + 1) (by omega) lead
    unfold I64; omega
  generalize onS (fun r => valT t m (lead + r)) t.d = ov at *
  go_wp2_with fail
  refine HON2.out.mono ?_
  rintro e w4 ⟨rfl, ⟨ks4, hm4, hgr4⟩, hb4⟩
  have HB4 := Lib.hid (HB3.out.trans hb4)
  have hy4 := hb4.blk HY3.out (by omega)
  have y0 : w4.cell? ⟨w.heap.size + 1, 0, none⟩ = some (.int .i64 lead) := hy4.cell 0
  have y1 : w4.cell? ⟨w.heap.size + 1, 1, none⟩ = some (.int .i64 (m + 1)) := hy4.cell 1
  have HM4 := Lib.hid hm4
  have HG4 := Lib.hid (hgr4.mono (n := (m : Int) + 1) (by omega))
  have hin4 : (lead, (m : Int) + 1) ∉ ks4 := fun h => by
    rcases hgr4.2 _ h with h | h
    · exact hin h
    · simp only [] at h; omega
  clear hm4 hgr4 hb4 hy4 t0 t1 t2 t3 t4 HON2
  obtain ⟨vv, hvv⟩ : ∃ vv, valT t (m + 1) lead = vv := ⟨_, rfl⟩
  have HV := Lib.hid (show vF t (m + 1) lead = vv by unfold vF; rw [show ((m : Int) + 1).toNat = m + 1 by omega, hvv])
  have HVV := Lib.hid hvv
  rw [hvv] at hyr
  by_cases hno : nv < ov
  · have HMX := Lib.hid (show ov = vv by rw [← hvv, HVT.out]; omega)
    have HMY := Lib.hid (congrArg (Value.int .i64) HMX.out)
    clear hvv
    go_wp2_with (refine wpList_memoPut rfl _ _ _ rfl b ks4 lead (m + 1) vv rfl rfl HMY.out HM4.out hbx hin4 HV.out hyr ?_; intro w5 hm5 hb5; have HM5 := Lib.hid hm5; have HB5 := Lib.hid (HB4.out.trans hb5); clear hm5 hb5)
    go_ret
    exact ⟨ret_int (HMX.out.trans HVV.out.symm), ⟨_, HM5.out, HG4.out.put⟩, HB5.out⟩
  · have HMX := Lib.hid (show nv = vv by rw [← hvv, HVT.out]; omega)
    have HMY := Lib.hid (congrArg (Value.int .i64) HMX.out)
    clear hvv
    go_wp2_with (refine wpList_memoPut rfl _ _ _ rfl b ks4 lead (m + 1) vv rfl rfl HMY.out HM4.out hbx hin4 HV.out hyr ?_; intro w5 hm5 hb5; have HM5 := Lib.hid hm5; have HB5 := Lib.hid (HB4.out.trans hb5); clear hm5 hb5)
    go_ret
    exact ⟨ret_int (HMX.out.trans HVV.out.symm), ⟨_, HM5.out, HG4.out.put⟩, HB5.out⟩
def OnRR (t : Tk) (m : Nat) (lead : Int) (ks : List (Int × Int)) (b : Nat) (w1 : World) (s i : Value) (wr : World) : Prop := ∃ k : Nat, k ≤ t.d.length ∧ i = .int .i64 k ∧ s = .int .i64 (onS (fun r => valT t m (lead + r)) (t.d.take k)) ∧ (∃ ks', Memo (vF t) wr b ks' ∧ Gr m ks ks') ∧ Mb w1 wr b
theorem on_step (t : Tk) (hok : OkT t) (m : Nat) (hm : (m : Int) + 1 ≤ t.ov) (hvc : ValC t m) : OnC t m := by
  intro A W c wc lead b ks w hrd hl hM
  have HVC := Lib.hid hvc
  have HE := Lib.hid hok.d.each
  have hov := hok.ov
  obtain ⟨hd1, hd2⟩ := hok.d.len
  have hbk := Blk.new w 25 (tkL t A W c wc)
  have hb0 := cur_new w (.cells (tkL t A W c wc).toArray 25)
  unfold tkL at hbk hb0
  have hlt := hM.lt
  have HM := Lib.hid (hM.to hb0)
  have HB := Lib.hid (Mb.of hb0 hlt)
  have HRD := Lib.hid hrd
  have HP := Lib.hid (fun j => hok.part (f := fun r => valT t m (lead + r)) (M := P16 (m + 1)) (by have := P16_pos (m + 1); omega) (fun o _ => hok.val (by omega) _) j)
  have HVL := Lib.hid (fun l => hok.val (m := m) (by omega) l)
  have hp12 := P16_le (show m + 1 + 1 ≤ 12 by omega)
  rw [P16_12] at hp12
  have hpe : P16 (m + 1 + 1) = 16 * P16 (m + 1) := rfl
  clear hvc hM hb0 hrd
  go_enter Tryz.func47, Tryz.ntmps47
  go_wp2_with fail
  generalize w.alloc (Obj.cells #[.int .i64 t.ov, .int .i64 t.ld, .int .i64 t.sp, .slice A t.d.length c, .slice W t.win.length wc] 25) = w1 at *
  have hw1 := hbk.lt
  have HBK := Lib.hid hbk
  clear hbk
  go_loopw [9, 15] (OnRR t m lead ks b w1) (fun _ i _ => t.d.length - (intOf i).toNat)
  case atStart => exact ⟨0, by omega, rfl, rfl, ⟨ks, HM.out, Gr.refl _ _⟩, ⟨fun _ _ _ => rfl, Nat.le_refl _, fun _ _ h _ => h⟩⟩
  case round =>
    obtain ⟨k, hk, rfl, rfl, ⟨ks2, hm2, hg2⟩, hb⟩ := hrel
    clear HM
    have HM := Lib.hid hm2
    have HG := Lib.hid hg2
    have HBr := Lib.hid hb
    have hltr := hm2.lt
    clear hm2 hg2 hb
    by_cases hlt2 : k < t.d.length
    · obtain ⟨z, hz⟩ : ∃ z, t.d[k]? = some z := ⟨_, List.getElem?_eq_getElem hlt2⟩
      have hrd2 := rd_mb HRD.out (fun B hB => (HB.out.trans HBr.out).below B w (Below.refl _ _) hB)
      have HRD2 := Lib.hid hrd2
      obtain ⟨ob, ooff, rfl, hob, hoc⟩ := (rd_full hrd2 hltr).1 k z hz
      obtain ⟨c0, c1, c2⟩ := oc_cells hoc
      have hez := HE.out z (List.mem_of_getElem? hz)
      have HT := Lib.hid (onS_take (f := fun r => valT t m (lead + r)) hz)
      have hp := HP.out k
      have hp1 := HP.out (k + 1)
      rw [HT.out] at hp1
      obtain ⟨zr, zk, zw⟩ := z
      simp only [] at hez hp1 c0 c1 c2
      obtain ⟨fv, hfv⟩ : ∃ fv, valT t m (lead + zr) = fv := ⟨_, rfl⟩
      have hfb := HVL.out (lead + zr)
      have HT2 := Lib.hid (show onS (fun r => valT t m (lead + r)) (t.d.take (k + 1)) = onS (fun r => valT t m (lead + r)) (t.d.take k) + zw * fv by rw [HT.out, hfv])
      rw [hfv] at hp1 hfb
      clear hoc hz hrd2 HT
      have hbk2 := HBr.out.blk HBK.out (by omega)
      have l0 : w.heap.size < wr.heap.size := hbk2.lt
      obtain ⟨t0, t1, t2, t3, t4⟩ := tk_cells (hbk2.to (cur_new wr (.cells #[.int .i64 zr, .bool zk, .int .i64 zw] 56)))
      have k0 : (wr.alloc (.cells #[.int .i64 zr, .bool zk, .int .i64 zw] 56)).cell? ⟨wr.heap.size, 0, none⟩ = some (.int .i64 zr) := (Blk.new wr 56 [.int .i64 zr, .bool zk, .int .i64 zw]).cell 0
      have k2 : (wr.alloc (.cells #[.int .i64 zr, .bool zk, .int .i64 zw] 56)).cell? ⟨wr.heap.size, 2, none⟩ = some (.int .i64 zw) := (Blk.new wr 56 [.int .i64 zr, .bool zk, .int .i64 zw]).cell 2
      have hbo := cur_new wr (.cells #[.int .i64 zr, .bool zk, .int .i64 zw] 56)
      have HRD3 := Lib.hid (rd_mb HRD2.out (fun B hB => (hbo.mono (show B ≤ wr.heap.size by omega)).drew))
      have HM3 := Lib.hid (HM.out.to hbo.drew)
      have HBo := Lib.hid (Mb.of hbo hltr)
      clear hbk2 hbo
      have hm0 : 0 ≤ zw * fv := Int.mul_nonneg (by omega) hfb.1
      go_wp2_with fail
      generalize hW2 : wr.alloc (.cells #[.int .i64 zr, .bool zk, .int .i64 zw] 56) = w2 at *
      have l2 : w2.heap.size = wr.heap.size + 1 := by rw [← hW2]; simp
      clear hW2
      obtain ⟨S, hS⟩ : ∃ S, onS (fun r => valT t m (lead + r)) (t.d.take k) = S := ⟨_, rfl⟩
      rw [hS] at hp hp1 HT2 ⊢
      clear hS
      have hs1 : IntKind.i64.wrap (lead + zr) = lead + zr := by rw [IntKind.wrap_i64]; omega
      have hs2 : IntKind.i64.wrap (m : Int) = (m : Int) := by rw [IntKind.wrap_i64]; omega
      have hs3 : IntKind.i64.wrap (zw * fv) = zw * fv := by rw [IntKind.wrap_i64]; omega
      have hs4 : IntKind.i64.wrap (S + zw * fv) = S + zw * fv := by rw [IntKind.wrap_i64]; omega
      have HC := Lib.hid (HVC.out (some ⟨ob, ooff, none⟩) W c wc (lead + zr) b ks2 w2.drew HRD3.out (by omega) HM3.out)
      rw [hfv] at HC
      clear hfv
      go_region_held3 (fun w' => w'.cell? ⟨w.heap.size, 0, none⟩ = some (.int .i64 t.ov) ∧ w'.cell? ⟨w.heap.size, 1, none⟩ = some (.int .i64 t.ld) ∧ w'.cell? ⟨w.heap.size, 2, none⟩ = some (.int .i64 t.sp) ∧ w'.cell? ⟨w.heap.size, 3, none⟩ = some (.slice (some ⟨ob, ooff, none⟩) t.d.length c) ∧ w'.cell? ⟨w.heap.size, 4, none⟩ = some (.slice W t.win.length wc) ∧ w'.cell? ⟨wr.heap.size, 0, none⟩ = some (.int .i64 zr) ∧ w'.cell? ⟨wr.heap.size, 2, none⟩ = some (.int .i64 zw))
        (first
          | (go_keep; done)
          | (go_split_ands; refine ⟨?_, ?_, ?_, ?_, ?_, ?_, ?_⟩ <;> (rw [hb4.cell (by simp; omega) (by omega)]; first | assumption | (go_keep; done))))
        ((go_at_call 30; refine HC.out.mono ?_; rintro e w4 ⟨rfl, ⟨ks4, hm4, hgr4⟩, hb4⟩))
      rename_i hHeld
      have HM4 := Lib.hid hm4
      have HG4 := Lib.hid (HG.out.trans hgr4)
      have HB4 := Lib.hid ((HBr.out.trans HBo.out).trans (show Mb w2 w4 b from ⟨hb4.keep, hb4.size, fun B a hB hb => hb4.below B a hB.drew hb⟩))
      clear hm4 hgr4 hb4 hHeld t0 t1 t2 t3 t4 k0 k2 hs1 hs2 hs3 hs4 HC
      go_wp2_with fail
      go_roundw
      case rel => exact ⟨k + 1, hlt2, by simp, by rw [HT2.out], ⟨ks4, HM4.out, HG4.out⟩, HB4.out⟩
      case measure => simp [intOf]; omega
    · have HV2 := Lib.hid (show onS (fun r => valT t m (lead + r)) (t.d.take k) = onS (fun r => valT t m (lead + r)) t.d by rw [List.take_of_length_le (by omega)])
      go_wp2_with fail
      go_ret
      exact ⟨ret_int HV2.out, ⟨ks2, HM.out, HG.out⟩, HB.out.trans HBr.out⟩
theorem val_all (t : Tk) (hok : OkT t) : ∀ (m : Nat), (m : Int) ≤ t.ov → ValC t m := by
  intro m
  induction m with
  | zero =>
    intro hm A W c wc lead b ks w hrd hl hM
    by_cases hin : (lead, (0 : Int)) ∈ ks
    · exact val_hit t 0 (by omega) A W c wc lead b ks w hl hM hin
    · exact val_zero t hok A W c wc lead b ks w hrd (by omega) hM hin
  | succ m ih =>
    intro hm A W c wc lead b ks w hrd hl hM
    have hov := hok.ov
    by_cases hin : (lead, ((m + 1 : Nat) : Int)) ∈ ks
    · exact val_hit t (m + 1) (by omega) A W c wc lead b ks w hl hM hin
    · exact val_succ t hok m (by omega) (on_step t hok m (by omega) (ih (by omega))) A W c wc lead b ks w hrd (by omega) hM hin
end Go.Proofs.YtkmkdknjpnkkpaaGreatDoor
