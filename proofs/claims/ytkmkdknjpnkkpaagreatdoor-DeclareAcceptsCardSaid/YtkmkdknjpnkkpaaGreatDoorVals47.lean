/-
  Chapter 47: the values from a lead on, of the program.
-/
import Derived.Test.YtkmkdknjpnkkpaaGreatDoorOn47
import Derived.RegionTactic
import Derived.BigRegion
import Derived.BigQuiet
import Derived.Deep.RegionHeld3
import Derived.Deep.RegionWith
set_option linter.unusedSimpArgs false
set_option linter.unusedVariables false
namespace Go.Proofs.YtkmkdknjpnkkpaaGreatDoor
open Go.RowKit
set_option maxRecDepth 100000
set_option maxHeartbeats 1000000
def lstT (t : Tk) (m : Nat) (lead : Int) (n : Nat) : List Int := (List.range n).map fun k : Nat => valT t m (lead + (k : Int))
theorem lstT_len (t : Tk) (m : Nat) (lead : Int) (n : Nat) : (lstT t m lead n).length = n := by simp [lstT]
theorem lstT_at {t : Tk} {m : Nat} {lead : Int} {n k : Nat} (h : k < n) : (lstT t m lead n)[k]? = some (valT t m (lead + (k : Int))) := by simp [lstT, h]
theorem own_of_blk {α : Type} {enc : α → List Value} {e g base : Nat} {l : List α} {w : World} {n : Nat} (hn : l.length = n) (hm : n ≤ maxLen) (hb : base ≤ g) (h : Blk w g e (l.flatMap enc)) (hs : ∀ x, (enc x).length = 1) : OwnL enc 1 e base w (.slice (some ⟨g, 0, none⟩) n n) l := by
  subst hn
  have hfl : (l.flatMap enc).length = l.length := by rw [flat_length hs]; omega
  refine ⟨by rw [hfl]; omega, .inr ⟨g, l.length, l.flatMap enc |>.toArray, rfl, hb, h, ?_⟩⟩
  exact ⟨Nat.le_refl _, hm, by simpa using hfl, by rw [Nat.mul_one, List.take_of_length_le]; simp [hfl]⟩
def fnT (t : Tk) (m : Nat) (lead : Int) (n k : Nat) : List Value := fn n fun j => .int .i64 (if j < k then valT t m (lead + (j : Int)) else 0)
def VlR (t : Tk) (A W : Option Addr) (c wc m : Nat) (lead : Int) (n : Nat) (w : World) (G : Nat) (i : Value) (wr : World) : Prop := ∃ k : Nat, k ≤ n ∧ i = .int .i64 k ∧ Blk wr G 2 (fnT t m lead n k) ∧ Blk wr w.heap.size 25 (tkL t A W c wc) ∧ Below w.heap.size w wr
def VsR (t : Tk) (m : Nat) (lead : Int) (n : Nat) (w : World) (G : Nat) (i : Value) (wr : World) : Prop := ∃ k : Nat, k ≤ n ∧ i = .int .i64 k ∧ Blk wr G 2 (fnT t m lead n k) ∧ Below w.heap.size w wr
theorem fnT_zero (t : Tk) (m : Nat) (lead : Int) (n : Nat) : fnT t m lead n 0 = List.replicate n (.int .i64 0) := by
  rw [fn_rep]; exact fn_eq fun j _ => by rw [if_neg (by omega)]
theorem fnT_next {t : Tk} {m : Nat} {lead : Int} {n k : Nat} {u : Value} (h : u = .int .i64 (valT t m (lead + (k : Int)))) : (fnT t m lead n k).set k u = fnT t m lead n (k + 1) := by
  subst h
  refine fn_set fun j hj => ?_
  by_cases e : j = k
  · subst e; rw [if_pos (by omega), if_pos rfl]
  · rw [if_neg e]
    by_cases h1 : j < k
    · rw [if_pos h1, if_pos (by omega)]
    · rw [if_neg h1, if_neg (by omega)]
theorem fnT_all (t : Tk) (m : Nat) (lead : Int) (n : Nat) : fnT t m lead n n = (lstT t m lead n).flatMap inE := by
  have : fnT t m lead n n = (lstT t m lead n).map (Value.int .i64) := by
    unfold fnT fn lstT
    rw [List.map_map]
    exact List.map_congr_left fun j hj => by simp at hj; simp [hj]
  rw [this]
  generalize lstT t m lead n = l
  induction l with
  | nil => rfl
  | cons x r ih => simp [inE, ih]
theorem vals_p (t : Tk) (hok : OkT t) : ∀ (m : Nat), (m : Int) ≤ t.ov → ∀ (A W : Option Addr) (c wc : Nat) (lead : Int) (n : Nat) (w : World), Rd ocE 3 w w.heap.size A t.d → Rd2 w w.heap.size W t.win → -10000 ≤ lead ∧ lead ≤ 10000 → n + 7 * m ≤ 10000 →
    Calls Tryz.prog 29 #[tkV t A W c wc, .int .i64 lead, .int .i64 m, .int .i64 n] w fun e w' => ∃ v, e = .returned v ∧ OwnL inE 1 2 w.heap.size w' v (lstT t m lead n) ∧ Below w.heap.size w w' := by
  intro m
  induction m with
  | zero =>
    intro hm A W c wc lead n w hd hw hl hn
    have hbk := Blk.new w 25 (tkL t A W c wc)
    have hb0 := cur_new w (.cells (tkL t A W c wc).toArray 25)
    unfold tkL at hbk hb0
    have HD := Lib.hid hd
    have HW := Lib.hid hw
    clear hd hw
    go_enter Tryz.func29, Tryz.ntmps29
    go_wp2_with (refine wpList_makeN _ rfl _ _ _ rfl 2 (.int .i64 0) 8 (by kernel_rfl) (by kernel_rfl) (by kernel_rfl) .i64 .i64 n (by rfl) (by rfl) (by omega) (by unfold maxLen; omega) ?_; intro w3 hq hb3; have HB3 := Lib.hid (cur_step1 hb0 hb3); have HQ := Lib.hid hq; have HK := Lib.hid (hbk.to hb3); clear hq hb3)
    obtain ⟨G, hG⟩ : ∃ G, G = w.heap.size + 1 := ⟨_, rfl⟩
    have HQ2 := Lib.hid (show Blk w3 G 2 (fnT t 0 lead n 0) by rw [hG, fnT_zero, fn_rep]; simpa using HQ.out)
    rw [← hG]
    have hG1 : w.heap.size ≠ G := by omega
    have hGw : w.heap.size ≤ G := by omega
    clear hG hbk hb0 HQ
    go_loopw [34] (VlR t A W c wc 0 lead n w G) (fun i _ => n - (intOf i).toNat)
    case atStart => exact ⟨0, by omega, rfl, HQ2.out, HK.out, HB3.out⟩
    case round =>
      obtain ⟨k, hk, rfl, hq, hk2, hb⟩ := hrel
      clear HQ2 HK HB3
      have HB := Lib.hid hb
      have HQ := Lib.hid hq
      have HK := Lib.hid hk2
      by_cases hlt : k < n
      · obtain ⟨t0, t1, t2, t3, t4⟩ := tk_cells hk2
        have hlk : -1000000 ≤ lead + (k : Int) ∧ lead + (k : Int) ≤ 1000000 := by omega
        clear hb hq hk2
        go_wp2_with fail
        refine (now_p t A W c wc (lead + (k : Int)) _ 0 _ hok hm (HD.out.to HB.out) (HW.out.to HB.out) hlk rfl).mono ?_
        rintro e w4 ⟨rfl, hb4⟩
        have HQ4 := Lib.hid (HQ.out.to hb4)
        have HK4 := Lib.hid (HK.out.to hb4)
        have HB4 := Lib.hid (cur_step1 HB.out hb4)
        have cg : w4.cell? ⟨G, k, none⟩ = some (.int .i64 (if k < k then valT t 0 (lead + (k : Int)) else 0)) := by rw [HQ4.out.cell, fnT, fn_at hlt]
        rw [if_neg (by omega)] at cg
        have fg := HQ4.out.frozen k
        clear hb4
        go_wp2_with fail
        go_roundw
        case rel => exact ⟨k + 1, hlt, by simp, by rw [← fnT_next rfl]; exact HQ4.out.set k _, HK4.out.other hG1 _ _, below_set HB4.out hGw _ _⟩
        case measure => simp [intOf]; omega
      · obtain rfl : k = n := by omega
        clear hb hq hk2
        go_wp2_with fail
        go_ret
        exact ⟨_, rfl, own_of_blk (lstT_len t 0 lead k) (by unfold maxLen; omega) hGw (by rw [← fnT_all]; exact HQ.out) inE_len, HB.out⟩
  | succ m ih =>
    intro hm A W c wc lead n w hd hw hl hn
    have hbk := Blk.new w 25 (tkL t A W c wc)
    have hb0 := cur_new w (.cells (tkL t A W c wc).toArray 25)
    obtain ⟨z, hz, hz0, hz7, hzm⟩ := hok.d.last
    obtain ⟨hd1, hd2⟩ := hok.d.len
    have hd3 : t.d.length - 1 < t.d.length := by omega
    have hd4 : (1 : Int) ≤ (t.d.length : Int) := by omega
    have hd5 : (t.d.length : Int) - 1 < (t.d.length : Int) := by omega
    obtain ⟨ob, ooff, rfl, hob, hoc⟩ := (hd.to hb0) (t.d.length - 1) z hz
    obtain ⟨c0, c1, c2⟩ := oc_cells hoc
    unfold tkL at hbk hb0 hob c0 c1 c2
    obtain ⟨R, hR⟩ : ∃ R : Nat, z.r = R := ⟨z.r.toNat, by omega⟩
    rw [hR] at c0 hz7
    have HZM := Lib.hid (show ∀ o ∈ t.d, o.r ≤ (R : Int) by rw [← hR]; exact hzm)
    have HD := Lib.hid hd
    have HW := Lib.hid hw
    have hm1 : (m : Int) + 1 ≤ 11 := by have := hok.ov; omega
    clear hd hw hoc hz hzm hz0 hR
    go_enter Tryz.func29, Tryz.ntmps29
    go_wp2_with fail
    generalize w.alloc (Obj.cells #[.int .i64 t.ov, .int .i64 t.ld, .int .i64 t.sp, .slice (some ⟨ob, ooff, none⟩) t.d.length c, .slice W t.win.length wc] 25) = w0 at c0 c1 c2 hbk hb0 hob ⊢
    have HB0 := Lib.hid hb0
    have HK0 := Lib.hid hbk
    obtain ⟨t0, t1, t2, t3, t4⟩ := tk_cells hbk
    have hs1 : IntKind.i64.wrap ((t.d.length : Int) - 1) = (t.d.length : Int) - 1 := by rw [IntKind.wrap_i64]; omega
    have hs2 : IntKind.i64.wrap ((n : Int) + (R : Int)) = ((n + R : Nat) : Int) := by rw [IntKind.wrap_i64]; omega
    have hs3 : IntKind.i64.wrap (m : Int) = (m : Int) := by rw [IntKind.wrap_i64]; omega
    have HD1 := Lib.hid (HD.out.to hb0.drew)
    have HW1 := Lib.hid (HW.out.to hb0.drew)
    have hnr : n + R + 7 * m ≤ 10000 := by omega
    have hmo : (m : Int) ≤ t.ov := by omega
    have HI := Lib.hid (fun (x y : Int) (hx : x = (m : Int)) (hy : y = ((n + R : Nat) : Int)) (v : Value) (hv : v = tkV t (some ⟨ob, ooff, none⟩) W c wc) => (show Calls Tryz.prog 29 #[v, .int .i64 lead, .int .i64 x, .int .i64 y] w0.drew fun e w' => ∃ v, e = .returned v ∧ OwnL inE 1 2 w0.heap.size w' v (lstT t m lead (n + R)) ∧ Below w0.heap.size w0.drew w' from by subst hx hy hv; exact ih hmo (some ⟨ob, ooff, none⟩) W c wc lead (n + R) _ HD1.out HW1.out hl hnr))
    have l1 : w.heap.size < w0.heap.size := hbk.lt
    clear hbk hb0
    go_region_held3 (fun w' => w'.cell? ⟨w.heap.size, 0, none⟩ = some (.int .i64 t.ov) ∧ w'.cell? ⟨w.heap.size, 1, none⟩ = some (.int .i64 t.ld) ∧ w'.cell? ⟨w.heap.size, 2, none⟩ = some (.int .i64 t.sp) ∧ w'.cell? ⟨w.heap.size, 3, none⟩ = some (.slice (some ⟨ob, ooff, none⟩) t.d.length c) ∧ w'.cell? ⟨w.heap.size, 4, none⟩ = some (.slice W t.win.length wc) ∧ w'.cell? ⟨ob, ooff + (t.d.length - 1) * 3, none⟩ = some (.int .i64 R))
      (first
        | (go_keep; done)
        | (go_split_ands; refine ⟨?_, ?_, ?_, ?_, ?_, ?_⟩ <;> (rw [hb1.cell (by simp; omega)]; first | assumption | (go_keep; done))))
      ((go_at_call 29; refine (HI.out _ _ (by omega) (by omega) _ rfl).mono ?_; rintro e w1 ⟨lv, rfl, hown, hb1⟩))
    rename_i hHeld
    obtain ⟨LA, lc, rfl, hrd, _⟩ := OwnL.rd inE_len hown
    have HB1 := Lib.hid (show Below w.heap.size w w1 from HB0.out.trans (((Below.refl _ _).drew.trans (hb1.mono (Nat.le_refl _))).mono HB0.out.size))
    have HK1 := Lib.hid (show Blk w1 w.heap.size 25 (tkL t (some ⟨ob, ooff, none⟩) W c wc) from HK0.out.below ((Below.refl _ _).drew.trans (hb1.mono (Nat.le_refl _))) l1)
    have HRL := Lib.hid hrd
    have l0 : w0.heap.size ≤ w1.heap.size := hb1.size
    clear hrd hown hb1 HB0 HK0 c0 c1 c2 t0 t1 t2 t3 t4 hs1 hs2 hs3 HD1 HW1 HI hHeld
    have HLS := Lib.hid (show ∀ j : Nat, j < n + R → (lstT t m lead (n + R))[j]? = some (valT t m (lead + (j : Int))) from fun j hj => lstT_at hj)
    generalize lstT t m lead (n + R) = ls at *
    go_wp2_with (refine wpList_makeN _ rfl _ _ _ rfl 2 (.int .i64 0) 8 (by kernel_rfl) (by kernel_rfl) (by kernel_rfl) .i64 .i64 n (by rfl) (by rfl) (by omega) (by unfold maxLen; omega) ?_; intro w3 hq hb3; have HB3 := Lib.hid hb3; have HQ := Lib.hid hq; clear hq hb3)
    have HQ2 := Lib.hid (show Blk w3 w1.heap.size 2 (fnT t (m + 1) lead n 0) by rw [fnT_zero, fn_rep]; exact HQ.out)
    have hlw1 := HK1.out.lt
    have hG1 : w.heap.size ≠ w1.heap.size := by omega
    clear HQ
    go_loopw [34] (VsR t (m + 1) lead n w1 w1.heap.size) (fun i _ => n - (intOf i).toNat)
    case atStart => exact ⟨0, by omega, rfl, HQ2.out, HB3.out⟩
    case round =>
      obtain ⟨k, hk, rfl, hq, hb⟩ := hrel
      clear HQ2 HB3
      have HB := Lib.hid hb
      have HQ := Lib.hid hq
      have HBw := Lib.hid (HB1.out.trans (hb.mono HB1.out.size))
      by_cases hlt : k < n
      · have HK := Lib.hid (HK1.out.to hb)
        obtain ⟨t0, t1, t2, t3, t4⟩ := tk_cells (HK1.out.to hb)
        have hlk : -1000000 ≤ lead + (k : Int) ∧ lead + (k : Int) ≤ 1000000 := by omega
        clear hb hq
        go_wp2_with fail
        refine (now_p t (some ⟨ob, ooff, none⟩) W c wc (lead + (k : Int)) _ (m + 1) _ hok hm (HD.out.to HBw.out) (HW.out.to HBw.out) hlk rfl).mono ?_
        rintro e w4 ⟨rfl, hb4⟩
        have HQ4 := Lib.hid (HQ.out.to hb4)
        have HK4 := Lib.hid (HK.out.to hb4)
        have HB4 := Lib.hid (cur_step1 HB.out hb4)
        have cg : w4.cell? ⟨w1.heap.size, k, none⟩ = some (.int .i64 (if k < k then valT t (m + 1) (lead + (k : Int)) else 0)) := by rw [HQ4.out.cell, fnT, fn_at hlt]
        rw [if_neg (by omega)] at cg
        have fg := HQ4.out.frozen k
        clear hb4 t0 t1 t2 t3 t4 HQ HK HB HBw
        go_wp2_with fail
        have hs5 : w4.heap.size = (w4.setCell ⟨w1.heap.size, k, none⟩ (.int .i64 (nowT t (lead + (k : Int)) (m + 1)))).heap.size := by simp
        have HQ5 := Lib.hid (show Blk (w4.setCell ⟨w1.heap.size, k, none⟩ (.int .i64 (nowT t (lead + (k : Int)) (m + 1)))) w1.heap.size 2 ((fnT t (m + 1) lead n k).set k (.int .i64 (nowT t (lead + (k : Int)) (m + 1)))) from HQ4.out.set k _)
        have hk5 : Blk (w4.setCell ⟨w1.heap.size, k, none⟩ (.int .i64 (nowT t (lead + (k : Int)) (m + 1)))) w.heap.size 25 (tkL t (some ⟨ob, ooff, none⟩) W c wc) := HK4.out.other hG1 k _
        have HB5 := Lib.hid (below_set HB4.out (Nat.le_refl _) k (.int .i64 (nowT t (lead + (k : Int)) (m + 1))))
        have hq5l := HQ5.out.lt
        have cg5 : (w4.setCell ⟨w1.heap.size, k, none⟩ (.int .i64 (nowT t (lead + (k : Int)) (m + 1)))).cell? ⟨w1.heap.size, k, none⟩ = some (.int .i64 (nowT t (lead + (k : Int)) (m + 1))) := by rw [HQ5.out.cell, List.getElem?_set_self (by rw [fnT, fn_length]; exact hlt)]
        clear HQ4 HK4 HB4 cg fg hs5
        generalize hnv : nowT t (lead + (k : Int)) (m + 1) = nv at *
        generalize w4.setCell ⟨w1.heap.size, k, none⟩ (.int .i64 nv) = w5 at *
        obtain ⟨t0, t1, t2, t3, t4⟩ := tk_cells hk5
        have hk5l := hk5.lt
        have HNV := Lib.hid hnv
        have HK5 := Lib.hid hk5
        clear hk5 hnv
        have HON := Lib.hid (on_p t (some ⟨ob, ooff, none⟩) W LA c wc lc k ls (fun r => valT t m (lead + (k : Int) + r)) (P16 (m + 1)) _ w5.drew hok (HD.out.to (HB1.out.trans (HB5.out.mono HB1.out.size)).drew) ((HRL.out.to HB5.out.drew)) (by omega)
          (fun o ho => ⟨by
            have h1 := HZM.out o ho
            have h2 := hok.d.each o ho
            rw [HLS.out (k + o.r.toNat) (by omega)]
            have e : lead + ((k + o.r.toNat : Nat) : Int) = lead + (k : Int) + o.r := by omega
            rw [e], hok.val hmo _⟩) (by
            have h1 := P16_le (show m + 1 + 1 ≤ 12 by omega)
            have h2 := P16_pos (m + 1)
            rw [P16_12] at h1
            have h3 : P16 (m + 1 + 1) = 16 * P16 (m + 1) := rfl
            omega) rfl)
        have HVT := Lib.hid (show valT t (m + 1) (lead + (k : Int)) = max nv (onS (fun r => valT t m (lead + (k : Int) + r)) t.d) by rw [valT, HNV.out])
        generalize onS (fun r => valT t m (lead + (k : Int) + r)) t.d = ov at *
        go_region_with (go_at_call 46; refine HON.out.mono ?_; rintro e w6 ⟨rfl, hb6⟩; have HQ6 := Lib.hid (HQ5.out.below ((Below.refl _ _).drew.trans (hb6.mono (Nat.le_refl _))) hq5l); have cg6 : w6.cell? ⟨w1.heap.size, k, none⟩ = some (.int .i64 nv) := (hb6.cell (p := ⟨w1.heap.size, k, none⟩) (by simp; omega)).trans cg5; have fg6 := HQ6.out.frozen k)
        all_goals
          have hb7 : Below w1.heap.size w1 w6 := HB5.out.drew.trans (hb6.mono (by have := HB5.out.size; exact this))
          have hb8 : Below w1.heap.size w1 (w6.setCell ⟨w1.heap.size, k, none⟩ (.int .i64 (if nv < ov then ov else nv))) := below_set hb7 (Nat.le_refl _) k _
          have hq8 : Blk (w6.setCell ⟨w1.heap.size, k, none⟩ (.int .i64 (if nv < ov then ov else nv))) w1.heap.size 2 (fnT t (m + 1) lead n (k + 1)) := by
            have h1 := HQ6.out.set k (.int .i64 (if nv < ov then ov else nv))
            rw [List.set_set] at h1
            rw [← fnT_next (u := .int .i64 (if nv < ov then ov else nv)) (by rw [HVT.out]; congr 1; split <;> omega)]
            exact h1
          have HB8 := Lib.hid hb8
          have HQ8 := Lib.hid hq8
          clear hb8 hq8 hb7 hb6 HQ6 cg6 fg6 HON t0 t1 t2 t3 t4 HQ5 cg5
          generalize w6.setCell ⟨w1.heap.size, k, none⟩ (.int .i64 (if nv < ov then ov else nv)) = w8 at *
          go_wp2_with fail
          go_roundw
          case rel => exact ⟨k + 1, hlt, by simp, HQ8.out, HB8.out⟩
          case measure => simp [intOf]; omega
      · obtain rfl : k = n := by omega
        clear hb hq
        go_wp2_with fail
        go_ret
        exact ⟨_, rfl, own_of_blk (lstT_len t (m + 1) lead k) (by unfold maxLen; omega) (by omega) (by rw [← fnT_all]; exact HQ.out) inE_len, HBw.out⟩
end Go.Proofs.YtkmkdknjpnkkpaaGreatDoor
