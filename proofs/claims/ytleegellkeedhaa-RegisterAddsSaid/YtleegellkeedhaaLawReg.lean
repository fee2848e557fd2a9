/-
  Chapter 54: the law RegisterChecks: the walk.
-/
import Derived.Test.YtleegellkeedhaaWins54
namespace Go.Proofs.Ytleegellkeedhaa
open Go.RowKit
set_option maxRecDepth 100000
set_option maxHeartbeats 1000000
theorem few_len {α : Type} (l : List α) (n : Nat) : (l.take n).length = min l.length n := by rw [List.length_take, Nat.min_comm]
theorem law_checks (WA A : Option Addr) (wc c : Nat) (ws : List Wn) (l : List Tr) (w : World) (hwl : ws.length ≤ 9223372036854775807) (hwc : ws.length ≤ wc) (hl : l.length ≤ 9223372036854775807) (hc : l.length ≤ c) (hwr : Rd wnE 2 w w.heap.size WA ws) (hr : Rd trE 3 w w.heap.size A l)
    (hsz : ∀ z ∈ l, z.p.size ≤ 9223372036854775807 ∧ z.t.size ≤ 9223372036854775807) :
    Calls Try.prog 3 #[.agg #[.slice WA ws.length wc, .slice A l.length c]] w fun e w' => e = .returned (.bool true) ∧ Below w.heap.size w w' := by
  have HW := Lib.hid (hwr.pre 6)
  have HR := Lib.hid (hr.pre 16)
  obtain ⟨ws', hws'⟩ : ∃ ws', ws' = ws.take 6 := ⟨_, rfl⟩
  obtain ⟨l', hl'⟩ : ∃ l', l' = l.take 16 := ⟨_, rfl⟩
  have hwl' : ws'.length ≤ 32 := by rw [hws', few_len]; omega
  have hll' : l'.length ≤ 2000 := by rw [hl', few_len]; omega
  have HSZ := Lib.hid (show ∀ (k : Nat) z, l'[k]? = some z → z.p.size ≤ 9223372036854775807 ∧ z.t.size ≤ 9223372036854775807 from fun k z h => hsz z (List.take_subset 16 l (by rw [← hl']; exact List.mem_of_getElem? h)))
  have e1 : min ws.length 6 = ws'.length := by rw [hws', few_len]
  have e2 : min l.length 16 = l'.length := by rw [hl', few_len]
  rw [← hws'] at HW
  rw [← hl'] at HR
  have HF := Lib.hid (few_f WA A wc ws.length c l.length)
  rw [e1, e2] at HF
  obtain ⟨r1, r2, hck⟩ : ∃ r1 r2, ckT ws' l' = (r1, r2) := ⟨_, _, rfl⟩
  have HCK := Lib.hid hck
  clear hwr hr hsz hws' hl' e1 e2 hck
  go_enter Try.func3, Try.ntmps3
  go_wp2_with fail
  refine (awake_any _).mono ?_
  rintro e w1 ⟨rfl, hb1⟩
  have hbx := (Blk.new w 25 [.slice WA ws.length wc, .slice A l.length c]).to hb1
  have hb2 := cur_step0 hb1
  have c0 : w1.cell? ⟨w.heap.size, 0, none⟩ = some (.slice WA ws.length wc) := hbx.cell 0
  have c1 : w1.cell? ⟨w.heap.size, 1, none⟩ = some (.slice A l.length c) := hbx.cell 1
  have HBX := Lib.hid hbx
  have HB := Lib.hid hb2
  clear hbx hb2 hb1
  go_wp2_with (go_at_call 9; refine (HF.out _ hl hc hwl hwc).mono ?_; rintro e w2 ⟨rfl, hb2⟩; have hx2 := HBX.out.to hb2; have d0 : w2.cell? ⟨w.heap.size, 0, none⟩ = some (.slice WA ws.length wc) := hx2.cell 0; have d1 : w2.cell? ⟨w.heap.size, 1, none⟩ = some (.slice A l.length c) := hx2.cell 1; have f0 := hx2.frozen 0; have f1 := hx2.frozen 1)
  have hx3 : Blk ((w2.setCell ⟨w.heap.size, 0, none⟩ (.slice WA ws'.length wc)).setCell ⟨w.heap.size, 1, none⟩ (.slice A l'.length c)) w.heap.size 25 [.slice WA ws'.length wc, .slice A l'.length c] := (hx2.set 0 (.slice WA ws'.length wc)).set 1 (.slice A l'.length c)
  have hb3 := below_set (below_set (cur_step1 HB.out hb2) (Nat.le_refl _) 0 (.slice WA ws'.length wc)) (Nat.le_refl _) 1 (.slice A l'.length c)
  generalize (w2.setCell ⟨w.heap.size, 0, none⟩ (.slice WA ws'.length wc)).setCell ⟨w.heap.size, 1, none⟩ (.slice A l'.length c) = w3 at hx3 hb3 ⊢
  have HB3 := Lib.hid hb3
  have HX3 := Lib.hid hx3
  clear hx3 hb3 hx2 d0 d1 f0 f1 c0 c1 hb2
  refine (ck_p WA wc ws' A c l' r1 r2 w3 hwl' hll' (HW.out.to HB3.out) (HR.out.to HB3.out) HSZ.out HCK.out).mono ?_
  rintro e w4 ⟨rfl, hb4⟩
  have HX4 := Lib.hid (HX3.out.to hb4)
  have HB4 := Lib.hid (cur_step1 HB3.out hb4)
  have c0 : w4.cell? ⟨w.heap.size, 0, none⟩ = some (.slice WA ws'.length wc) := HX4.out.cell 0
  have c1 : w4.cell? ⟨w.heap.size, 1, none⟩ = some (.slice A l'.length c) := HX4.out.cell 1
  clear hb4
  go_wp2_with fail
  have hlt4 : w.heap.size < w4.heap.size := HX4.out.lt
  go_region_held3 (fun w' => w'.cell? ⟨w.heap.size, 0, none⟩ = some (.slice WA ws'.length wc) ∧ w'.cell? ⟨w.heap.size, 1, none⟩ = some (.slice A l'.length c))
    (first
      | (go_keep; done)
      | (go_split_ands; refine ⟨?_, ?_⟩ <;> (rw [hb5.cell (by simp; omega)]; first | assumption | (go_keep; done)))
      | (go_split_ands; refine ⟨?_, ?_⟩ <;> (rw [hb6.cell (by have := hb5.size; simp at this ⊢; omega)]; first | assumption | (go_keep; done)))
      | (go_split_ands; refine ⟨?_, ?_⟩ <;> assumption))
    ((first
      | (go_at_call 12; refine (win_f WA wc ws' _ hwl' (HW.out.to HB4.out.drew)).mono ?_; rintro e w5 ⟨A2, c2, rfl, hrd, hb5⟩; have HRD := Lib.hid hrd; have HB5 := Lib.hid (cur_step1 HB4.out.drew hb5); clear hrd)
      | (go_at_call 11; refine (ck_r A2 c2 ws' A c l' r1 r2 w5 hwl' hll' HRD.out (HR.out.to HB5.out) HSZ.out HCK.out).mono ?_; rintro e w6 ⟨rfl, hb6⟩; have HB6 := Lib.hid (cur_step1 HB5.out hb6))))
  go_wp2_with fail
  go_ret
  exact ⟨rfl, HB6.out⟩
end Go.Proofs.Ytleegellkeedhaa
