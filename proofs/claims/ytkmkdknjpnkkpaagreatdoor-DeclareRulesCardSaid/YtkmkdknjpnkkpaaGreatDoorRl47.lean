/-
  Chapter 47: Rule of the program and of the reference.
-/
import Derived.Test.YtkmkdknjpnkkpaaGreatDoorRul47
import Derived.Test.YtkmkdknjpnkkpaaGreatDoorRulR47
import Derived.Test.YtkmkdknjpnkkpaaGreatDoorVal47
set_option linter.unusedSimpArgs false
set_option linter.unusedVariables false
namespace Go.Proofs.YtkmkdknjpnkkpaaGreatDoor
open Go.RowKit
set_option maxRecDepth 100000
set_option maxHeartbeats 1000000
def RulT (t : Tk) (ls : List Int) : Int × Int := if ckT t ≠ 0 then (0, ckT t) else if (ls.length : Int) ≠ t.ov + 1 then (0, 1) else (ruleT t ls t.ov.toNat t.ld, 0)
theorem ruled_i (t : Tk) (hok : OkT t) (ls : List Int) (hls : (ls.length : Int) = t.ov + 1) (mi : Int) (h0 : 0 ≤ mi) (hm : mi ≤ t.ov) (A W L : Option Addr) (c wc lc : Nat) (lead : Int) (n : Nat) (w : World) (hL : Rd inE 1 w w.heap.size L ls) (hd : Rd ocE 3 w w.heap.size A t.d) (hw : Rd2 w w.heap.size W t.win) (hl : -10000 ≤ lead ∧ lead ≤ 10000) (hn : n + 7 * mi ≤ 10000) :
    Calls Tryz.prog 33 #[tkV t A W c wc, .slice L ls.length lc, .int .i64 lead, .int .i64 mi, .int .i64 n] w fun e w' => ∃ v, e = .returned v ∧ OwnL inE 1 2 w.heap.size w' v (lstU t ls mi.toNat lead n) ∧ Below w.heap.size w w' := by
  obtain ⟨M, rfl⟩ : ∃ M : Nat, mi = M := ⟨mi.toNat, by omega⟩
  rw [Int.toNat_natCast]
  exact ruled_p t hok ls hls M hm A W L c wc lc lead n w hL hd hw hl (by omega)
theorem rule_i (t : Tk) (hok : OkT t) (ls : List Int) (hls : (ls.length : Int) = t.ov + 1) (mi : Int) (h0 : 0 ≤ mi) (hm : mi ≤ t.ov) (A W L : Option Addr) (c wc lc : Nat) (lead : Int) (b : Nat) (ks : List (Int × Int)) (w : World) (hr : R3 t ls A W L w b) (hl : -10000 ≤ lead ∧ lead + 7 * mi ≤ 10000) (hM : Memo (uF t ls) w b ks) :
    Calls Tryz.prog 34 #[tkV t A W c wc, .slice L ls.length lc, .int .i64 lead, .int .i64 mi, .map (some b)] w fun e w' => e = .returned (.int .i64 (ruleT t ls mi.toNat lead)) ∧ Mb w w' b := by
  obtain ⟨M, rfl⟩ : ∃ M : Nat, mi = M := ⟨mi.toNat, by omega⟩
  rw [Int.toNat_natCast]
  exact (rule_all t hok ls hls M hm A W L c wc lc lead b ks w hr hl hM).mono fun e w' ⟨h1, _, h2⟩ => ⟨h1, h2⟩
theorem Rule_p (t : Tk) (ls : List Int) (A W L : Option Addr) (c wc lc : Nat) (w : World) (hs : Sm t) (hd : Rd ocE 3 w w.heap.size A t.d) (hw : Rd2 w w.heap.size W t.win) (hL : Rd inE 1 w w.heap.size L ls) :
    Calls Tryz.prog 17 #[tkV t A W c wc, .slice L ls.length lc] w fun e w' => e = .returned (twoV (RulT t ls)) ∧ Below w.heap.size w w' := by
  obtain ⟨e0, he0⟩ : ∃ e0, ckT t = e0 := ⟨_, rfl⟩
  obtain ⟨v, hv⟩ : ∃ v, RulT t ls = v := ⟨_, rfl⟩
  rw [hv]
  unfold RulT at hv
  rw [he0] at hv
  have HD := Lib.hid hd
  have HW := Lib.hid hw
  have HL := Lib.hid hL
  have hbk := Blk.new w 25 (tkL t A W c wc)
  have hb0 := cur_new w (.cells (tkL t A W c wc).toArray 25)
  unfold tkL at hbk hb0
  clear hd hw hL
  by_cases h0 : e0 ≠ 0
  · rw [if_pos h0] at hv
    subst hv
    have e1 : (e0 != 0) = true := by simpa using h0
    clear h0
    go_enter Tryz.func17, Tryz.ntmps17
    go_wp2_with (go_at_call 15; refine (ckt_p t A W c wc e0 _ hs (HD.out.to hb0) (HW.out.to hb0) he0).mono ?_; rintro e w1 ⟨rfl, hb1⟩; have HB := Lib.hid (cur_step1 hb0 hb1); obtain ⟨t0, t1, t2, t3, t4⟩ := tk_cells (hbk.to hb1); clear hb1)
    go_ret2
    exact ⟨rfl, HB.out⟩
  · have h0' : e0 = 0 := by simpa using h0
    subst h0'
    rw [if_neg h0] at hv
    clear h0
    have hok := okT_of he0
    have hov2 := hok.ov
    have hld2 := hok.ld
    by_cases hn : (ls.length : Int) ≠ t.ov + 1
    · rw [if_pos hn] at hv
      subst hv
      go_enter Tryz.func17, Tryz.ntmps17
      go_wp2_with (go_at_call 15; refine (ckt_p t A W c wc 0 _ hs (HD.out.to hb0) (HW.out.to hb0) he0).mono ?_; rintro e w1 ⟨rfl, hb1⟩; have HB := Lib.hid (cur_step1 hb0 hb1); obtain ⟨t0, t1, t2, t3, t4⟩ := tk_cells (hbk.to hb1); clear hb1)
      go_ret2
      exact ⟨rfl, HB.out⟩
    · rw [if_neg hn] at hv
      subst hv
      have hn2 : (ls.length : Int) = t.ov + 1 := by omega
      have HN := Lib.hid hn2
      clear hn hn2
      go_enter Tryz.func17, Tryz.ntmps17
      have hle : (ls.length : Int) = t.ov + 1 := HN.out
      go_wp2_with (first
        | (go_at_call 15; refine (ckt_p t A W c wc 0 _ hs (HD.out.to hb0) (HW.out.to hb0) he0).mono ?_; rintro e w1 ⟨rfl, hb1⟩; have HB := Lib.hid (cur_step1 hb0 hb1); obtain ⟨t0, t1, t2, t3, t4⟩ := tk_cells (hbk.to hb1); clear hb1)
        | (go_at_call 33; refine (ruled_i t hok ls HN.out t.ov (by omega) (Int.le_refl _) A W L c wc lc t.ld 1 _ (HL.out.to HB.out) (HD.out.to HB.out) (HW.out.to HB.out) (by omega) (by omega)).mono ?_; rintro e w2 ⟨lv, rfl, hown, hb2⟩; obtain ⟨LA, lac, rfl, hrd, hz⟩ := OwnL.rd inE_len hown; have HB2 := Lib.hid (cur_step1 HB.out hb2); obtain ⟨lb, loff, rfl, _, hlc⟩ := hrd 0 (ruleT t ls t.ov.toNat (t.ld + ((0 : Nat) : Int))) (lstU_at (by omega)); have cl := in_cell hlc; obtain ⟨_, rfl⟩ := hz lb loff rfl; rw [Nat.add_zero, Int.ofNat_zero, Int.add_zero] at cl; rw [lstU_len]; clear hb2 hown hrd hlc hz))
      go_ret2
      exact ⟨rfl, HB2.out⟩
theorem Rule_r (t : Tk) (ls : List Int) (A W L : Option Addr) (c wc lc : Nat) (w : World) (hs : Sm t) (hd : Rd ocE 3 w w.heap.size A t.d) (hw : Rd2 w w.heap.size W t.win) (hL : Rd inE 1 w w.heap.size L ls) :
    Calls Tryz.prog 18 #[tkV t A W c wc, .slice L ls.length lc] w fun e w' => e = .returned (twoV (RulT t ls)) ∧ Below w.heap.size w w' := by
  obtain ⟨e0, he0⟩ : ∃ e0, ckT t = e0 := ⟨_, rfl⟩
  obtain ⟨v, hv⟩ : ∃ v, RulT t ls = v := ⟨_, rfl⟩
  rw [hv]
  unfold RulT at hv
  rw [he0] at hv
  have HD := Lib.hid hd
  have HW := Lib.hid hw
  have HL := Lib.hid hL
  have hbk := Blk.new w 25 (tkL t A W c wc)
  have hb0 := cur_new w (.cells (tkL t A W c wc).toArray 25)
  unfold tkL at hbk hb0
  clear hd hw hL
  by_cases h0 : e0 ≠ 0
  · rw [if_pos h0] at hv
    subst hv
    have e1 : (e0 != 0) = true := by simpa using h0
    clear h0
    go_enter Tryz.func18, Tryz.ntmps18
    go_wp2_with (go_at_call 16; refine (ckt_r t A W c wc e0 _ hs (HD.out.to hb0) (HW.out.to hb0) he0).mono ?_; rintro e w1 ⟨rfl, hb1⟩; have HB := Lib.hid (cur_step1 hb0 hb1); obtain ⟨t0, t1, t2, t3, t4⟩ := tk_cells (hbk.to hb1); clear hb1)
    go_ret2
    exact ⟨rfl, HB.out⟩
  · have h0' : e0 = 0 := by simpa using h0
    subst h0'
    rw [if_neg h0] at hv
    clear h0
    have hok := okT_of he0
    have hov2 := hok.ov
    have hld2 := hok.ld
    by_cases hn : (ls.length : Int) ≠ t.ov + 1
    · rw [if_pos hn] at hv
      subst hv
      go_enter Tryz.func18, Tryz.ntmps18
      go_wp2_with (go_at_call 16; refine (ckt_r t A W c wc 0 _ hs (HD.out.to hb0) (HW.out.to hb0) he0).mono ?_; rintro e w1 ⟨rfl, hb1⟩; have HB := Lib.hid (cur_step1 hb0 hb1); obtain ⟨t0, t1, t2, t3, t4⟩ := tk_cells (hbk.to hb1); clear hb1)
      go_ret2
      exact ⟨rfl, HB.out⟩
    · rw [if_neg hn] at hv
      subst hv
      have hn2 : (ls.length : Int) = t.ov + 1 := by omega
      have HN := Lib.hid hn2
      have hmk : ∀ w, Sem.run Tryz.prog (Instr.makeMap 51 none) w = .ok (.map (some w.heap.size)) (w.alloc (.map #[] 0)) := fun w => run_makeMap _ w
      clear hn hn2
      go_enter Tryz.func18, Tryz.ntmps18
      have hle : (ls.length : Int) = t.ov + 1 := HN.out
      go_wp2_with (first
        | (go_at_call 16; refine (ckt_r t A W c wc 0 _ hs (HD.out.to hb0) (HW.out.to hb0) he0).mono ?_; rintro e w1 ⟨rfl, hb1⟩; have HB := Lib.hid (cur_step1 hb0 hb1); obtain ⟨t0, t1, t2, t3, t4⟩ := tk_cells (hbk.to hb1); clear hb1)
        | (go_at_call 34; refine (rule_i t hok ls HN.out t.ov (by omega) (Int.le_refl _) A W L c wc lc t.ld _ [] _ ⟨w.heap.size, by have := HB.out.size; simp; omega, HD.out.below (HB.out.trans ((cur_new w1 _).mono HB.out.size)), HW.out.below (HB.out.trans ((cur_new w1 _).mono HB.out.size)), HL.out.below (HB.out.trans ((cur_new w1 _).mono HB.out.size))⟩ (by omega) (Memo.made _ _)).mono ?_; rintro e w2 ⟨rfl, hb2⟩; have HB2 := Lib.hid (hb2.below w.heap.size w (HB.out.trans ((cur_new w1 _).mono HB.out.size)) (by have := HB.out.size; omega)); clear hb2))
      go_ret2
      exact ⟨rfl, HB2.out⟩
end Go.Proofs.YtkmkdknjpnkkpaaGreatDoor
