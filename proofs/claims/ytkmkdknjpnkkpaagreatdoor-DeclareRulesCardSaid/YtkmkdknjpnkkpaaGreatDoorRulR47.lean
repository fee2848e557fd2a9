/-
  Chapter 47: the weight of a rule, of the reference.
-/
import Derived.Test.YtkmkdknjpnkkpaaGreatDoorValR47
set_option linter.unusedSimpArgs false
set_option linter.unusedVariables false
namespace Go.Proofs.YtkmkdknjpnkkpaaGreatDoor
open Go.RowKit
set_option maxRecDepth 100000
set_option maxHeartbeats 1000000
def uF (t : Tk) (ls : List Int) (m l : Int) : Int := ruleT t ls m.toNat l
def R3 (t : Tk) (ls : List Int) (A W L : Option Addr) (w : World) (b : Nat) : Prop := ∃ B, B ≤ b ∧ Rd ocE 3 w B A t.d ∧ Rd2 w B W t.win ∧ Rd inE 1 w B L ls
section
variable {t : Tk} {ls : List Int} {A W L : Option Addr} {w w' : World} {b : Nat}
theorem R3.mb (h : R3 t ls A W L w b) (hb : ∀ B, B ≤ b → Below B w w') : R3 t ls A W L w' b := by
  obtain ⟨B, h1, h2, h3, h4⟩ := h
  exact ⟨B, h1, h2.below (hb B h1), h3.below (hb B h1), h4.below (hb B h1)⟩
theorem R3.full (h : R3 t ls A W L w b) (hb : b < w.heap.size) : Rd ocE 3 w w.heap.size A t.d ∧ Rd2 w w.heap.size W t.win ∧ Rd inE 1 w w.heap.size L ls := by
  obtain ⟨B, h1, h2, h3, h4⟩ := h
  exact ⟨h2.more (by omega), h3.more (by omega), h4.more (by omega)⟩
end
def RulC (t : Tk) (ls : List Int) (m : Nat) : Prop := ∀ (A W L : Option Addr) (c wc lc : Nat) (lead : Int) (b : Nat) (ks : List (Int × Int)) (w : World), R3 t ls A W L w b → -10000 ≤ lead ∧ lead + 7 * (m : Int) ≤ 10000 → Memo (uF t ls) w b ks →
    Calls Tryz.prog 34 #[tkV t A W c wc, .slice L ls.length lc, .int .i64 lead, .int .i64 m, .map (some b)] w fun e w' => e = .returned (.int .i64 (ruleT t ls m lead)) ∧ (∃ ks', Memo (uF t ls) w' b ks' ∧ Gr m ks ks') ∧ Mb w w' b
theorem rule_zero (t : Tk) (hok : OkT t) (ls : List Int) : RulC t ls 0 := by
  intro A W L c wc lc lead b ks w hrd hl hM
  have hb2 := cur_new w (.cells (tkL t A W c wc).toArray 25)
  unfold tkL at hb2
  have HM := Lib.hid (hM.to hb2)
  have HB := Lib.hid (Mb.of hb2 hM.lt)
  have hlt2 := (hM.to hb2).lt
  have HRD := Lib.hid (hrd.mb (fun B hB => (HB.out.below B w (Below.refl _ _) hB)))
  clear hM hb2 hrd
  go_enter Tryz.func34, Tryz.ntmps34
  go_wp2_with fail
  generalize w.alloc (Obj.cells #[.int .i64 t.ov, .int .i64 t.ld, .int .i64 t.sp, .slice A t.d.length c, .slice W t.win.length wc] 25) = w2 at *
  have HF := Lib.hid (HRD.out.full hlt2)
  refine (now_r t A W c wc lead _ 0 _ hok (by have := hok.ov; omega) HF.out.1 HF.out.2.1 (by omega) rfl).mono ?_
  rintro e w3 ⟨rfl, hb3⟩
  have HM3 := Lib.hid (HM.out.to hb3)
  have HB3 := Lib.hid (HB.out.trans (Mb.of hb3 hlt2))
  clear hb3
  go_wp2_with fail
  go_ret
  exact ⟨rfl, ⟨ks, HM3.out, Gr.refl _ _⟩, HB3.out⟩
theorem rule_now (t : Tk) (hok : OkT t) (ls : List Int) (m : Nat) (hm : (m : Int) + 1 ≤ t.ov) (A W L : Option Addr) (c wc lc : Nat) (lead x : Int) (b : Nat) (ks : List (Int × Int)) (w : World) (hrd : R3 t ls A W L w b) (hl : -10000 ≤ lead ∧ lead + 7 * ((m : Int) + 1) ≤ 10000) (hM : Memo (uF t ls) w b ks) (hx : ls[m + 1]? = some x) (hge : x ≤ lead) :
    Calls Tryz.prog 34 #[tkV t A W c wc, .slice L ls.length lc, .int .i64 lead, .int .i64 (m + 1), .map (some b)] w fun e w' => e = .returned (.int .i64 (ruleT t ls (m + 1) lead)) ∧ (∃ ks', Memo (uF t ls) w' b ks' ∧ Gr ((m : Int) + 1) ks ks') ∧ Mb w w' b := by
  have hb2 := cur_new w (.cells (tkL t A W c wc).toArray 25)
  unfold tkL at hb2
  have HM := Lib.hid (hM.to hb2)
  have HB := Lib.hid (Mb.of hb2 hM.lt)
  have hlt2 := (hM.to hb2).lt
  have HRD := Lib.hid (hrd.mb (fun B hB => (HB.out.below B w (Below.refl _ _) hB)))
  have HV := Lib.hid (show nowT t lead (m + 1) = ruleT t ls (m + 1) lead by rw [ruleT, List.getD_eq_getElem?_getD, hx]; exact (if_pos hge).symm)
  have hm2 : m + 1 < ls.length := (List.getElem?_eq_some_iff.1 hx).1
  have hov := hok.ov
  obtain ⟨Lb, Loff, rfl, hLb, hLc⟩ := (HRD.out.full hlt2).2.2 _ x hx
  have cL := in_cell hLc
  clear hM hb2 hrd hLc hx
  go_enter Tryz.func34, Tryz.ntmps34
  go_wp2_with fail
  generalize w.alloc (Obj.cells #[.int .i64 t.ov, .int .i64 t.ld, .int .i64 t.sp, .slice A t.d.length c, .slice W t.win.length wc] 25) = w2 at *
  have HF := Lib.hid (HRD.out.full hlt2)
  refine (now_r t A W c wc lead _ (m + 1) _ hok (by omega) HF.out.1 HF.out.2.1 (by omega) rfl).mono ?_
  rintro e w3 ⟨rfl, hb3⟩
  have HM3 := Lib.hid (HM.out.to hb3)
  have HB3 := Lib.hid (HB.out.trans (Mb.of hb3 hlt2))
  clear hb3 cL
  go_wp2_with fail
  go_ret
  exact ⟨ret_int HV.out, ⟨ks, HM3.out, Gr.refl _ _⟩, HB3.out⟩
theorem rule_hit (t : Tk) (ls : List Int) (m : Nat) (hm11 : m + 1 ≤ 11) (A W L : Option Addr) (c wc lc : Nat) (lead x : Int) (b : Nat) (ks : List (Int × Int)) (w : World) (hrd : R3 t ls A W L w b) (hl : -10000 ≤ lead ∧ lead + 7 * ((m : Int) + 1) ≤ 10000) (hM : Memo (uF t ls) w b ks) (hx : ls[m + 1]? = some x) (hge : ¬ x ≤ lead) (hin : (lead, (m : Int) + 1) ∈ ks) :
    Calls Tryz.prog 34 #[tkV t A W c wc, .slice L ls.length lc, .int .i64 lead, .int .i64 (m + 1), .map (some b)] w fun e w' => e = .returned (.int .i64 (ruleT t ls (m + 1) lead)) ∧ (∃ ks', Memo (uF t ls) w' b ks' ∧ Gr ((m : Int) + 1) ks ks') ∧ Mb w w' b := by
  have hbx : Bx (lead, (m : Int) + 1) := by unfold Bx; simp only []; omega
  have hb1 := cur_new w (.cells (tkL t A W c wc).toArray 25)
  have hb2 := cur_two w (.cells (tkL t A W c wc).toArray 25) (.cells #[.int .i64 lead, .int .i64 (m + 1)] 72)
  unfold tkL at hb2 hb1
  have hlk := (hM.to hb2).look hbx
  rw [if_pos hin] at hlk
  have HM := Lib.hid (hM.to hb2)
  have HB := Lib.hid (Mb.of hb2 hM.lt)
  have HV := Lib.hid (show uF t ls ((m : Int) + 1) lead = ruleT t ls (m + 1) lead by unfold uF; rw [show ((m : Int) + 1).toNat = m + 1 by omega])
  rw [HV.out] at hlk
  have hm2 : m + 1 < ls.length := (List.getElem?_eq_some_iff.1 hx).1
  have hlt2 := (hM.to hb1).lt
  have HRD := Lib.hid (hrd.mb (fun B hB => ((Mb.of hb1 hM.lt).below B w (Below.refl _ _) hB)))
  obtain ⟨Lb, Loff, rfl, hLb, hLc⟩ := (HRD.out.full hlt2).2.2 _ x hx
  have cL := in_cell hLc
  clear hM hb2 hb1 hrd hLc hx
  go_enter Tryz.func34, Tryz.ntmps34
  go_wp2
  go_ret
  exact ⟨rfl, ⟨ks, HM.out, Gr.refl _ _⟩, HB.out⟩
def RuRR (t : Tk) (ls : List Int) (m : Nat) (lead : Int) (ks : List (Int × Int)) (b : Nat) (w1 : World) (s i : Value) (wr : World) : Prop := ∃ k : Nat, k ≤ t.d.length ∧ i = .int .i64 k ∧ s = .int .i64 (onS (fun r => ruleT t ls m (lead + r)) (t.d.take k)) ∧ (∃ ks', Memo (uF t ls) wr b ks' ∧ Gr m ks ks') ∧ Mb w1 wr b
theorem rule_step (t : Tk) (hok : OkT t) (ls : List Int) (m : Nat) (hm : (m : Int) + 1 ≤ t.ov) (hvc : RulC t ls m) (A W L : Option Addr) (c wc lc : Nat) (lead x : Int) (b : Nat) (ks : List (Int × Int)) (w : World) (hrd : R3 t ls A W L w b) (hl : -10000 ≤ lead ∧ lead + 7 * ((m : Int) + 1) ≤ 10000) (hM : Memo (uF t ls) w b ks) (hx : ls[m + 1]? = some x) (hge : ¬ x ≤ lead) (hin : (lead, (m : Int) + 1) ∉ ks) :
    Calls Tryz.prog 34 #[tkV t A W c wc, .slice L ls.length lc, .int .i64 lead, .int .i64 (m + 1), .map (some b)] w fun e w' => e = .returned (.int .i64 (ruleT t ls (m + 1) lead)) ∧ (∃ ks', Memo (uF t ls) w' b ks' ∧ Gr ((m : Int) + 1) ks ks') ∧ Mb w w' b := by
  have hbx : Bx (lead, (m : Int) + 1) := by have := hok.ov; unfold Bx; simp only []; omega
  have HVC := Lib.hid hvc
  have HE := Lib.hid hok.d.each
  have hov := hok.ov
  obtain ⟨hd1, hd2⟩ := hok.d.len
  have hb1 := cur_new w (.cells (tkL t A W c wc).toArray 25)
  have hb2 := cur_two w (.cells (tkL t A W c wc).toArray 25) (.cells #[.int .i64 lead, .int .i64 (m + 1)] 72)
  unfold tkL at hb2 hb1
  have hlk := (hM.to hb2).look hbx
  rw [if_neg hin] at hlk
  have HM := Lib.hid (hM.to hb2)
  have HB := Lib.hid (Mb.of hb2 hM.lt)
  have hlt := hM.lt
  have hlt2 := (hM.to hb2).lt
  have hk2 : Blk ((w.alloc (.cells (tkL t A W c wc).toArray 25)).alloc (.cells #[.int .i64 lead, .int .i64 (m + 1)] 72)) w.heap.size 25 (tkL t A W c wc) := (Blk.new w _ _).to (cur_new _ _)
  have hy2 : Blk ((w.alloc (.cells (tkL t A W c wc).toArray 25)).alloc (.cells #[.int .i64 lead, .int .i64 (m + 1)] 72)) (w.heap.size + 1) 72 [.int .i64 lead, .int .i64 (m + 1)] := two_new w _ _
  have HRD := Lib.hid (hrd.mb (fun B hB => (HB.out.below B w (Below.refl _ _) hB)))
  have hm2 : m + 1 < ls.length := (List.getElem?_eq_some_iff.1 hx).1
  obtain ⟨Lb, Loff, rfl, hLb, hLc⟩ := ((hrd.mb (fun B hB => ((Mb.of hb1 hM.lt).below B w (Below.refl _ _) hB))).full (hM.to hb1).lt).2.2 _ x hx
  have cL := in_cell hLc
  have HRT := Lib.hid (show ruleT t ls (m + 1) lead = onS (fun r => ruleT t ls m (lead + r)) t.d by rw [ruleT, List.getD_eq_getElem?_getD, hx]; exact if_neg hge)
  have HP := Lib.hid (fun j => hok.part (f := fun r => ruleT t ls m (lead + r)) (M := P16 (m + 1)) (by have := P16_pos (m + 1); omega) (fun o _ => ⟨(hok.rule ls (by omega) _).1, Int.le_trans (hok.rule ls (by omega) _).2 (hok.val (by omega) _).2⟩) j)
  have HVL := Lib.hid (fun l => show 0 ≤ ruleT t ls m l ∧ ruleT t ls m l ≤ P16 (m + 1) from ⟨(hok.rule ls (m := m) (by omega) l).1, Int.le_trans (hok.rule ls (m := m) (by omega) l).2 (hok.val (m := m) (by omega) l).2⟩)
  have hp12 := P16_le (show m + 1 + 1 ≤ 12 by omega)
  rw [P16_12] at hp12
  have hpe : P16 (m + 1 + 1) = 16 * P16 (m + 1) := rfl
  have hl1 : Lb < w.heap.size + 1 := by simpa using hLb
  clear hvc hM hb2 hb1 hrd hLc hx hLb
  unfold tkL at hk2 hy2
  go_enter Tryz.func34, Tryz.ntmps34
  go_wp2_with fail
  generalize (w.alloc (Obj.cells #[.int .i64 t.ov, .int .i64 t.ld, .int .i64 t.sp, .slice A t.d.length c, .slice W t.win.length wc] 25)).alloc (Obj.cells #[.int .i64 lead, .int .i64 (m + 1)] 72) = w1 at *
  have hw1 := hk2.lt
  have HBK := Lib.hid hk2
  have HY2 := Lib.hid hy2
  have hby := hy2.lt
  clear hk2 hy2 hlk cL
  go_loopw [14, 45] (RuRR t ls m lead ks b w1) (fun _ i _ => t.d.length - (intOf i).toNat)
  case atStart => exact ⟨0, by omega, rfl, rfl, ⟨ks, HM.out, Gr.refl _ _⟩, ⟨fun _ _ _ => rfl, Nat.le_refl _, fun _ _ h _ => h⟩⟩
  case round =>
    obtain ⟨k, hk, rfl, rfl, ⟨ks2, hm2', hg2⟩, hb⟩ := hrel
    clear HM
    have HM := Lib.hid hm2'
    have HG := Lib.hid hg2
    have HBr := Lib.hid hb
    have hltr := hm2'.lt
    clear hm2' hg2 hb
    by_cases hlt2 : k < t.d.length
    · obtain ⟨z, hz⟩ : ∃ z, t.d[k]? = some z := ⟨_, List.getElem?_eq_getElem hlt2⟩
      have hrd2 := HRD.out.mb (fun B hB => (HBr.out).below B w1 (Below.refl _ _) hB)
      have HRD2 := Lib.hid hrd2
      obtain ⟨ob, ooff, rfl, hob, hoc⟩ := (hrd2.full hltr).1 k z hz
      obtain ⟨c0, c1, c2⟩ := oc_cells hoc
      have hez := HE.out z (List.mem_of_getElem? hz)
      have HT := Lib.hid (onS_take (f := fun r => ruleT t ls m (lead + r)) hz)
      have hp := HP.out k
      have hp1 := HP.out (k + 1)
      rw [HT.out] at hp1
      obtain ⟨zr, zk, zw⟩ := z
      simp only [] at hez hp1 c0 c1 c2
      obtain ⟨fv, hfv⟩ : ∃ fv, ruleT t ls m (lead + zr) = fv := ⟨_, rfl⟩
      have hfb := HVL.out (lead + zr)
      have HT2 := Lib.hid (show onS (fun r => ruleT t ls m (lead + r)) (t.d.take (k + 1)) = onS (fun r => ruleT t ls m (lead + r)) (t.d.take k) + zw * fv by rw [HT.out, hfv])
      rw [hfv] at hp1 hfb
      clear hoc hz hrd2 HT
      have hbk2 := HBr.out.blk HBK.out (by omega)
      have l0 : w.heap.size < wr.heap.size := hbk2.lt
      obtain ⟨t0, t1, t2, t3, t4⟩ := tk_cells (hbk2.to (cur_new wr (.cells #[.int .i64 zr, .bool zk, .int .i64 zw] 56)))
      have k0 : (wr.alloc (.cells #[.int .i64 zr, .bool zk, .int .i64 zw] 56)).cell? ⟨wr.heap.size, 0, none⟩ = some (.int .i64 zr) := (Blk.new wr 56 [.int .i64 zr, .bool zk, .int .i64 zw]).cell 0
      have k2 : (wr.alloc (.cells #[.int .i64 zr, .bool zk, .int .i64 zw] 56)).cell? ⟨wr.heap.size, 2, none⟩ = some (.int .i64 zw) := (Blk.new wr 56 [.int .i64 zr, .bool zk, .int .i64 zw]).cell 2
      have hbo := cur_new wr (.cells #[.int .i64 zr, .bool zk, .int .i64 zw] 56)
      have HRD3 := Lib.hid (HRD2.out.mb (fun B hB => (hbo.mono (show B ≤ wr.heap.size by omega)).drew))
      have HM3 := Lib.hid (HM.out.to hbo.drew)
      have HBo := Lib.hid (Mb.of hbo hltr)
      clear hbk2 hbo
      have hm0 : 0 ≤ zw * fv := Int.mul_nonneg (by omega) hfb.1
      go_wp2_with fail
      generalize hW2 : wr.alloc (.cells #[.int .i64 zr, .bool zk, .int .i64 zw] 56) = w2 at *
      have l2 : w2.heap.size = wr.heap.size + 1 := by rw [← hW2]; simp
      clear hW2
      obtain ⟨S, hS⟩ : ∃ S, onS (fun r => ruleT t ls m (lead + r)) (t.d.take k) = S := ⟨_, rfl⟩
      rw [hS] at hp hp1 HT2 ⊢
      clear hS
      have hs1 : IntKind.i64.wrap (lead + zr) = lead + zr := by rw [IntKind.wrap_i64]; omega
      have hs2 : IntKind.i64.wrap (m : Int) = (m : Int) := by rw [IntKind.wrap_i64]; omega
      have hs3 : IntKind.i64.wrap (zw * fv) = zw * fv := by rw [IntKind.wrap_i64]; omega
      have hs4 : IntKind.i64.wrap (S + zw * fv) = S + zw * fv := by rw [IntKind.wrap_i64]; omega
      have HC := Lib.hid (HVC.out (some ⟨ob, ooff, none⟩) W (some ⟨Lb, Loff, none⟩) c wc lc (lead + zr) b ks2 w2.drew HRD3.out (by omega) HM3.out)
      rw [hfv] at HC
      clear hfv
      go_region_held3 (fun w' => w'.cell? ⟨w.heap.size, 0, none⟩ = some (.int .i64 t.ov) ∧ w'.cell? ⟨w.heap.size, 1, none⟩ = some (.int .i64 t.ld) ∧ w'.cell? ⟨w.heap.size, 2, none⟩ = some (.int .i64 t.sp) ∧ w'.cell? ⟨w.heap.size, 3, none⟩ = some (.slice (some ⟨ob, ooff, none⟩) t.d.length c) ∧ w'.cell? ⟨w.heap.size, 4, none⟩ = some (.slice W t.win.length wc) ∧ w'.cell? ⟨wr.heap.size, 0, none⟩ = some (.int .i64 zr) ∧ w'.cell? ⟨wr.heap.size, 2, none⟩ = some (.int .i64 zw))
        (first
          | (go_keep; done)
          | (go_split_ands; refine ⟨?_, ?_, ?_, ?_, ?_, ?_, ?_⟩ <;> (rw [hb4.cell (by simp; omega) (by omega)]; first | assumption | (go_keep; done))))
        ((go_at_call 34; refine HC.out.mono ?_; rintro e w4 ⟨rfl, ⟨ks4, hm4, hgr4⟩, hb4⟩))
      rename_i hHeld
      have HM4 := Lib.hid hm4
      have HG4 := Lib.hid (HG.out.trans hgr4)
      have HB4 := Lib.hid ((HBr.out.trans HBo.out).trans (show Mb w2 w4 b from ⟨hb4.keep, hb4.size, fun B a hB hb => hb4.below B a hB.drew hb⟩))
      clear hm4 hgr4 hb4 hHeld t0 t1 t2 t3 t4 k0 k2 hs1 hs2 hs3 hs4 HC
      go_wp2_with fail
      go_roundw
      case rel => exact ⟨k + 1, hlt2, by simp, by rw [HT2.out], ⟨ks4, HM4.out, HG4.out⟩, HB4.out⟩
      case measure => simp [intOf]; omega
    · have HV2 := Lib.hid (show onS (fun r => ruleT t ls m (lead + r)) (t.d.take k) = ruleT t ls (m + 1) lead by rw [List.take_of_length_le (by omega), HRT.out])
      have hy4 := HBr.out.blk HY2.out (by omega)
      have y0 : wr.cell? ⟨w.heap.size + 1, 0, none⟩ = some (.int .i64 lead) := hy4.cell 0
      have y1 : wr.cell? ⟨w.heap.size + 1, 1, none⟩ = some (.int .i64 (m + 1)) := hy4.cell 1
      have hin4 : (lead, (m : Int) + 1) ∉ ks2 := fun h => by
        rcases HG.out.2 _ h with h | h
        · exact hin h
        · simp only [] at h; omega
      obtain ⟨vv, hvv⟩ : ∃ vv, ruleT t ls (m + 1) lead = vv := ⟨_, rfl⟩
      have HV3 := Lib.hid (show uF t ls ((m : Int) + 1) lead = vv by unfold uF; rw [show ((m : Int) + 1).toNat = m + 1 by omega, hvv])
      have hyr : I64 vv := by
        have h2 := hok.rule ls (m := m + 1) (by omega) lead
        have h3 := hok.val (m := m + 1) (by omega) lead
        rw [hvv] at h2
        unfold I64; omega
      rw [HV2.out, hvv]
      have HVV := Lib.hid hvv
      clear hy4 hvv HV2
      go_wp2_with (refine wpList_memoPut rfl _ _ _ rfl b ks2 lead (m + 1) vv rfl rfl rfl HM.out hbx hin4 HV3.out hyr ?_; intro w5 hm5 hb5; have HM5 := Lib.hid hm5; have HB5 := Lib.hid (HBr.out.trans hb5); clear hm5 hb5)
      go_ret
      exact ⟨ret_int HVV.out.symm, ⟨_, HM5.out, (HG.out.mono (n := (m : Int) + 1) (by omega)).put⟩, HB.out.trans HB5.out⟩
theorem rule_all (t : Tk) (hok : OkT t) (ls : List Int) (hls : (ls.length : Int) = t.ov + 1) : ∀ (m : Nat), (m : Int) ≤ t.ov → RulC t ls m := by
  intro m
  induction m with
  | zero => intro _; exact rule_zero t hok ls
  | succ m ih =>
    intro hm A W L c wc lc lead b ks w hrd hl hM
    have hov := hok.ov
    obtain ⟨x, hx⟩ : ∃ x, ls[m + 1]? = some x := ⟨_, List.getElem?_eq_getElem (by omega)⟩
    by_cases hge : x ≤ lead
    · exact rule_now t hok ls m (by omega) A W L c wc lc lead x b ks w hrd (by omega) hM hx hge
    · by_cases hin : (lead, ((m + 1 : Nat) : Int)) ∈ ks
      · exact rule_hit t ls m (by omega) A W L c wc lc lead x b ks w hrd (by omega) hM hx hge hin
      · exact rule_step t hok ls m (by omega) (ih (by omega)) A W L c wc lc lead x b ks w hrd (by omega) hM hx hge hin
end Go.Proofs.YtkmkdknjpnkkpaaGreatDoor
