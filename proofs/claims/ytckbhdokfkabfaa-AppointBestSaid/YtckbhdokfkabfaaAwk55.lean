/-
  Chapter 55: the laws' own first look: the chapter's examples.
-/
import Derived.Test.YtckbhdokfkabfaaApp55
import Derived.Test.YtckbhdokfkabfaaEq55
set_option linter.unusedSimpArgs false
set_option linter.unusedVariables false
namespace Go.Proofs.Ytckbhdokfkabfaa
open Go.RowKit
set_option maxRecDepth 100000
set_option maxHeartbeats 8000000
def sA : ByteArray := ⟨#[65]⟩
def sB : ByteArray := ⟨#[66]⟩
def sC : ByteArray := ⟨#[67]⟩
def sD : ByteArray := ⟨#[68]⟩
def sReds : ByteArray := ⟨#[82, 69, 68, 83]⟩
def M0 : List Dty := [⟨1, 5, sReds, ⟨#[66, 76, 85, 69, 83]⟩⟩, ⟨2, 5, ⟨#[71, 82, 69, 69, 78, 83]⟩, ⟨#[87, 72, 73, 84, 69, 83]⟩⟩]
def U0 (a1 a2 a3 a4 : Nat) : List Ump := [⟨sA, sReds, [5], some ⟨a1, 0, none⟩, 1⟩, ⟨sB, ⟨#[]⟩, [5], some ⟨a2, 0, none⟩, 1⟩, ⟨sC, ⟨#[]⟩, [5], some ⟨a3, 0, none⟩, 1⟩, ⟨sD, ⟨#[]⟩, [5], some ⟨a4, 0, none⟩, 1⟩]
theorem sort0 : sortL (daysL M0) = [5] := by rw [show daysL M0 = [5] from rfl]; simp [sortL]
theorem app0 (a1 a2 a3 a4 : Nat) : appR M0 (U0 a1 a2 a3 a4) = ([⟨1, sB, sC⟩, ⟨2, sA, sD⟩], [], 0) := by
  unfold appR
  rw [if_neg (by rw [show ckA M0 (U0 a1 a2 a3 a4) = 0 by kernel_rfl]; simp)]
  rw [show badD M0 (U0 a1 a2 a3 a4) = none by unfold badD; rw [sort0]; kernel_rfl]
  have hp : pairF M0 (U0 a1 a2 a3 a4) = putAll (fun _ => (0, 0)) (pairL M0 (U0 a1 a2 a3 a4) [5]) := by unfold pairF; rw [sort0]
  show (M0.map (outE M0 (U0 a1 a2 a3 a4)), [], 0) = _
  unfold outE
  rw [hp]
  kernel_rfl
theorem app1 (a1 a2 a3 a4 : Nat) : appR M0 ((U0 a1 a2 a3 a4).take 3) = ([], [1, 2], 13) := by
  unfold appR
  rw [if_neg (by rw [show ckA M0 ((U0 a1 a2 a3 a4).take 3) = 0 by kernel_rfl]; simp)]
  rw [show badD M0 ((U0 a1 a2 a3 a4).take 3) = some 5 by unfold badD; rw [sort0]; kernel_rfl]
  kernel_rfl
theorem rd_blk {α : Type} {enc : α → List Value} {size : Nat} (hs : ∀ x, (enc x).length = size) {w : World} {b e : Nat} {l : List α} (h : Blk w b e (l.flatMap enc)) : Rd enc size w w.heap.size (some ⟨b, 0, none⟩) l := fun k x hx =>
  ⟨b, 0, rfl, h.lt, fun j u hu => by rw [Nat.zero_add]; exact (h.cell _).trans (flat_at hs l k x hx j u hu)⟩
theorem awake_p (w : World) : Calls Try.prog 10 #[] w fun e w' => e = .returned (.bool true) ∧ Below w.heap.size w w' := by
  obtain ⟨w1, hw1⟩ : ∃ W, w.alloc (.cells (M0.flatMap dtE).toArray 29) = W := ⟨_, rfl⟩
  obtain ⟨w2, hw2⟩ : ∃ W, w1.alloc (.cells (([5] : List Int).flatMap iE).toArray 2) = W := ⟨_, rfl⟩
  obtain ⟨w3, hw3⟩ : ∃ W, w2.alloc (.cells (([5] : List Int).flatMap iE).toArray 2) = W := ⟨_, rfl⟩
  obtain ⟨w4, hw4⟩ : ∃ W, w3.alloc (.cells (([5] : List Int).flatMap iE).toArray 2) = W := ⟨_, rfl⟩
  obtain ⟨w5, hw5⟩ : ∃ W, w4.alloc (.cells (([5] : List Int).flatMap iE).toArray 2) = W := ⟨_, rfl⟩
  have hz1 : w1.heap.size = w.heap.size + 1 := by rw [← hw1]; simp
  have hz2 : w2.heap.size = w.heap.size + 2 := by rw [← hw2]; simp; omega
  have hz3 : w3.heap.size = w.heap.size + 3 := by rw [← hw3]; simp; omega
  have hz4 : w4.heap.size = w.heap.size + 4 := by rw [← hw4]; simp; omega
  have hz5 : w5.heap.size = w.heap.size + 5 := by rw [← hw5]; simp; omega
  obtain ⟨U, hU⟩ : ∃ U, U0 w1.heap.size w2.heap.size w3.heap.size w4.heap.size = U := ⟨_, rfl⟩
  obtain ⟨w6, hw6⟩ : ∃ W, w5.alloc (.cells (U.flatMap umE).toArray 32) = W := ⟨_, rfl⟩
  have b1 : Below w.heap.size w w1 := by rw [← hw1]; exact cur_new _ _
  have b2 : Below w1.heap.size w1 w2 := by rw [← hw2]; exact cur_new _ _
  have b3 : Below w2.heap.size w2 w3 := by rw [← hw3]; exact cur_new _ _
  have b4 : Below w3.heap.size w3 w4 := by rw [← hw4]; exact cur_new _ _
  have b5 : Below w4.heap.size w4 w5 := by rw [← hw5]; exact cur_new _ _
  have b6 : Below w5.heap.size w5 w6 := by rw [← hw6]; exact cur_new _ _
  have r1 : Rd dtE 4 w1 w1.heap.size (some ⟨w.heap.size, 0, none⟩) M0 := rd_blk dtE_len (by rw [← hw1]; exact Blk.new _ _ _)
  have r2 : Rd iE 1 w2 w2.heap.size (some ⟨w1.heap.size, 0, none⟩) [5] := rd_blk iE_len (by rw [← hw2]; exact Blk.new _ _ _)
  have r3 : Rd iE 1 w3 w3.heap.size (some ⟨w2.heap.size, 0, none⟩) [5] := rd_blk iE_len (by rw [← hw3]; exact Blk.new _ _ _)
  have r4 : Rd iE 1 w4 w4.heap.size (some ⟨w3.heap.size, 0, none⟩) [5] := rd_blk iE_len (by rw [← hw4]; exact Blk.new _ _ _)
  have r5 : Rd iE 1 w5 w5.heap.size (some ⟨w4.heap.size, 0, none⟩) [5] := rd_blk iE_len (by rw [← hw5]; exact Blk.new _ _ _)
  have r6 : Rd umE 3 w6 w6.heap.size (some ⟨w5.heap.size, 0, none⟩) U := rd_blk umE_len (by rw [← hw6]; exact Blk.new _ _ _)
  have HT := Lib.hid (show TaskR w6 (some ⟨w.heap.size, 0, none⟩) (some ⟨w5.heap.size, 0, none⟩) M0 U from by
    refine ⟨((((r1.to b2).to b3).to b4).to b5).to b6, ⟨r6, fun y hy => ?_⟩, fun x hx => ?_, fun y hy => ?_, by decide, by rw [← hU]; show 4 ≤ 1000; decide⟩
    · rw [← hU] at hy
      simp [U0] at hy
      rcases hy with rfl | rfl | rfl | rfl
      · exact (((r2.to b3).to b4).to b5).to b6
      · exact ((r3.to b4).to b5).to b6
      · exact (r4.to b5).to b6
      · exact r5.to b6
    · simp [M0] at hx
      rcases hx with rfl | rfl <;> exact ⟨by decide, by decide⟩
    · rw [← hU] at hy
      simp [U0] at hy
      rcases hy with rfl | rfl | rfl | rfl <;> exact ⟨of_decide_eq_true (by kernel_rfl), of_decide_eq_true (by kernel_rfl), by simp⟩)
  have HB6 := Lib.hid (cur_step1 (cur_step1 (cur_step1 (cur_step1 (cur_step1 b1 b2) b3) b4) b5) b6)
  have HUL := Lib.hid (show U.length = 4 by rw [← hU]; rfl)
  have HA0 := Lib.hid (show appR M0 U = ([⟨1, sB, sC⟩, ⟨2, sA, sD⟩], [], 0) by rw [← hU]; exact app0 _ _ _ _)
  have HA1 := Lib.hid (show appR M0 (U.take 3) = ([], [1, 2], 13) by rw [← hU]; exact app1 _ _ _ _)
  have HT3 := Lib.hid (show TaskR w6 (some ⟨w.heap.size, 0, none⟩) (some ⟨w5.heap.size, 0, none⟩) M0 (U.take 3) from
    ⟨HT.out.m, ⟨HT.out.u.rd.pre 3, fun y hy => HT.out.u.ds y (List.mem_of_mem_take hy)⟩, HT.out.ms, fun y hy => HT.out.us y (List.mem_of_mem_take hy), HT.out.ml, by simp; omega⟩)
  have SW := Lib.hid (show (((((w.alloc (.cells (M0.flatMap dtE).toArray 29)).alloc (.cells (([5] : List Int).flatMap iE).toArray 2)).alloc (.cells (([5] : List Int).flatMap iE).toArray 2)).alloc (.cells (([5] : List Int).flatMap iE).toArray 2)).alloc (.cells (([5] : List Int).flatMap iE).toArray 2)).alloc (.cells ((U0 (w.heap.size + 1) (w.heap.size + 2) (w.heap.size + 3) (w.heap.size + 4)).flatMap umE).toArray 32) = w6 by
    rw [hw1, hw2, hw3, hw4, hw5, ← hz1, ← hz2, ← hz3, ← hz4, hU, hw6])
  have HZ5 := Lib.hid hz5
  clear hz1 hz2 hz3 hz4 hz5 hw1 hw2 hw3 hw4 hw5 hw6 b1 b2 b3 b4 b5 b6 r1 r2 r3 r4 r5 r6 hU
  go_enter Try.func10, Try.ntmps10
  go_upto_region 3 with (fail)
  change Code.wp _ _ _ _ ((((((w.alloc (.cells (M0.flatMap dtE).toArray 29)).alloc (.cells (([5] : List Int).flatMap iE).toArray 2)).alloc (.cells (([5] : List Int).flatMap iE).toArray 2)).alloc (.cells (([5] : List Int).flatMap iE).toArray 2)).alloc (.cells (([5] : List Int).flatMap iE).toArray 2)).alloc (.cells ((U0 (w.heap.size + 1) (w.heap.size + 2) (w.heap.size + 3) (w.heap.size + 4)).flatMap umE).toArray 32))
  rw [SW.out]
  rw [show w.heap.size + 1 + 1 + 1 + 1 + 1 = w5.heap.size by rw [HZ5.out]]
  obtain ⟨bM, hbM⟩ : ∃ b, w.heap.size = b := ⟨_, rfl⟩
  obtain ⟨bU, hbU⟩ : ∃ b, w5.heap.size = b := ⟨_, rfl⟩
  rw [hbM, hbU] at HT HT3 ⊢
  clear hbM hbU SW HZ5
  have hcall := appoint_p _ _ 2 4 M0 U w6 HT.out
  rw [HUL.out, HA0.out] at hcall
  have HC := Lib.hid hcall
  clear hcall
  go_wp2_with (fail)
  refine HC.out.mono ?_
  rintro e w7 ⟨⟨A1, c1, A2, c2, rfl, hr1, hr2⟩, hb7⟩
  have HR1 := Lib.hid hr1
  have HB7 := Lib.hid (cur_step1 HB6.out hb7)
  have HT7 := Lib.hid (HT3.out.to hb7)
  clear hr1 hr2 hb7 HC
  dsimp only [List.length_nil, List.length_cons]
  obtain ⟨w8, hw8⟩ : ∃ W, w7.alloc (.cells (([⟨1, sB, sC⟩, ⟨2, sA, sD⟩] : List Apd).flatMap apE).toArray 43) = W := ⟨_, rfl⟩
  have HR8 := Lib.hid (show Rd apE 3 w8 w8.heap.size (some ⟨w7.heap.size, 0, none⟩) [⟨1, sB, sC⟩, ⟨2, sA, sD⟩] from rd_blk apE_len (by rw [← hw8]; exact Blk.new _ _ _))
  have hb8 : Below w7.heap.size w7 w8 := by rw [← hw8]; exact cur_new _ _
  have HR18 := Lib.hid (HR1.out.to hb8)
  have HB8 := Lib.hid (cur_step1 HB7.out hb8)
  have HT8 := Lib.hid (HT7.out.to hb8)
  have S8 := Lib.hid hw8
  clear hb8 hw8
  go_wp2_with (fail)
  change Calls _ _ _ (w7.alloc (.cells (([⟨1, sB, sC⟩, ⟨2, sA, sD⟩] : List Apd).flatMap apE).toArray 43)) _
  rw [S8.out]
  refine (eq_ap A1 (some ⟨w7.heap.size, 0, none⟩) c1 2 [⟨1, sB, sC⟩, ⟨2, sA, sD⟩] [⟨1, sB, sC⟩, ⟨2, sA, sD⟩] w8 (by decide) (by decide) HR18.out HR8.out).mono ?_
  rintro e w9 ⟨rfl, hb9⟩
  rw [decide_eq_true rfl]
  have HB9 := Lib.hid (cur_step1 HB8.out hb9)
  have HT9 := Lib.hid (HT8.out.to hb9)
  clear hb9
  have hcall := appoint_p _ _ 2 4 M0 (U.take 3) w9 HT9.out
  rw [show (U.take 3).length = 3 by rw [List.length_take, HUL.out]; rfl, HA1.out] at hcall
  have HC := Lib.hid hcall
  clear hcall
  go_wp2_with (fail)
  refine HC.out.mono ?_
  rintro e wa ⟨⟨A3, c3, A4, c4, rfl, hr3, hr4⟩, hba⟩
  have HR4 := Lib.hid hr4
  have HBa := Lib.hid (cur_step1 HB9.out hba)
  clear hr3 hr4 hba HC
  dsimp only [List.length_nil, List.length_cons]
  obtain ⟨wc, hwc⟩ : ∃ W, wa.alloc (.cells (([1, 2] : List Int).flatMap iE).toArray 3) = W := ⟨_, rfl⟩
  have HR5 := Lib.hid (show Rd iE 1 wc wc.heap.size (some ⟨wa.heap.size, 0, none⟩) [1, 2] from rd_blk iE_len (by rw [← hwc]; exact Blk.new _ _ _))
  have hbc : Below wa.heap.size wa wc := by rw [← hwc]; exact cur_new _ _
  have HR45 := Lib.hid (HR4.out.to hbc)
  have HBc := Lib.hid (cur_step1 HBa.out hbc)
  have Sc := Lib.hid hwc
  clear hbc hwc
  go_wp2_with (fail)
  change Calls _ _ _ (wa.alloc (.cells (([1, 2] : List Int).flatMap iE).toArray 3)) _
  rw [Sc.out]
  refine (eq_i A4 (some ⟨wa.heap.size, 0, none⟩) c4 2 [1, 2] [1, 2] wc (by decide) (by decide) HR45.out HR5.out).mono ?_
  rintro e wd ⟨rfl, hbd⟩
  rw [decide_eq_true rfl]
  have HBd := Lib.hid (cur_step1 HBc.out hbd)
  clear hbd
  go_wp2_with (fail)
  go_ret
  exact ⟨rfl, HBd.out⟩
end Go.Proofs.Ytckbhdokfkabfaa
