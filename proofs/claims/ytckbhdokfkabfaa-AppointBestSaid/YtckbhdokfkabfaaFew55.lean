/-
  Chapter 55: few: at most four matches and eight umpires with at most eight days.
-/
import Derived.Test.YtckbhdokfkabfaaAwk55
set_option linter.unusedSimpArgs false
set_option linter.unusedVariables false
namespace Go.Proofs.Ytckbhdokfkabfaa
open Go.RowKit
set_option maxRecDepth 100000
set_option maxHeartbeats 8000000
def cutU (y : Ump) : Ump := ⟨y.nm, y.tm, y.ds.take 8, y.a, y.c⟩
def fewU (U : List Ump) : List Ump := (U.take 8).map cutU
/-- Umpires as they come in. -/
structure RawU (w : World) (y : Ump) : Prop where
  nm : y.nm.size ≤ 9223372036854775807
  tm : y.tm.size ≤ 9223372036854775807
  le : y.ds.length ≤ y.c
  cap : y.c ≤ 9223372036854775807
  rd : Rd iE 1 w w.heap.size y.a y.ds
theorem Try.umElem : ElemOf Try.prog umE 3 56 23 32 := .mk' (show (Try.prog.info? 32).map (fun i => (i.zero, i.size, i.bytes)) = some (some (.agg #[.string ⟨#[]⟩, .string ⟨#[]⟩, .slice none 0 0]), 3, 56) by kernel_rfl) rfl Try.underlying23 (by decide) umE_len (fun x u hu => by simp [umE] at hu; rcases hu with rfl | rfl | rfl <;> rfl)
def tsE (A : Option Addr) (n c : Nat) (B : Option Addr) (m d : Nat) : List Value := [.slice A n c, .slice B m d]
theorem few_p (A B : Option Addr) (c d : Nat) (M : List Dty) (U : List Ump) (w : World) (hM : Rd dtE 4 w w.heap.size A M) (hms : ∀ x ∈ M, DtS x) (hmc : M.length ≤ c) (hcm : c ≤ 9223372036854775807) (hU : Rd umE 3 w w.heap.size B U) (hus : ∀ y ∈ U, RawU w y) (hud : U.length ≤ d) (hdm : d ≤ 9223372036854775807) :
    Calls Try.prog 11 #[.agg #[.slice A M.length c, .slice B U.length d]] w fun e w' => (∃ B' d', e = .returned (.agg (tsE A (M.take 4).length c B' (fewU U).length d').toArray) ∧ TaskR w' A B' (M.take 4) (fewU U)) ∧ Below w.heap.size w w' := by
  obtain ⟨M', hM'⟩ : ∃ L, M.take 4 = L := ⟨_, rfl⟩
  obtain ⟨L, hL⟩ : ∃ L, U.take 8 = L := ⟨_, rfl⟩
  have HM := Lib.hid (show Rd dtE 4 w w.heap.size A M' by rw [← hM']; exact hM.pre 4)
  have HMS := Lib.hid (show ∀ x ∈ M', DtS x from fun x hx => hms x (by rw [← hM'] at hx; exact List.mem_of_mem_take hx))
  have HU := Lib.hid (show Rd umE 3 w w.heap.size B L by rw [← hL]; exact hU.pre 8)
  have HUS := Lib.hid (show ∀ y ∈ L, RawU w y from fun y hy => hus y (by rw [← hL] at hy; exact List.mem_of_mem_take hy))
  have HFU := Lib.hid (show fewU U = L.map cutU by unfold fewU; rw [hL])
  have hlm : min M.length 4 = M'.length := by rw [← hM']; simp; omega
  have hll : min U.length 8 = L.length := by rw [← hL]; simp; omega
  have hm4 : M'.length ≤ 4 := by omega
  have hl8 : L.length ≤ 8 := by omega
  obtain ⟨n, hn⟩ : ∃ n, M.length = n := ⟨_, rfl⟩
  obtain ⟨m, hm⟩ : ∃ m, U.length = m := ⟨_, rfl⟩
  rw [hn] at hmc hlm ⊢
  rw [hm] at hud hll ⊢
  have hmin1 : min (n : Int) 4 = (M'.length : Nat) := by omega
  have hmin2 : min (m : Int) 8 = (L.length : Nat) := by omega
  have h1 : (M'.length : Int) ≤ c := by omega
  have h2 : ¬ (c : Int) < M'.length := by omega
  have h3 : (L.length : Int) ≤ d := by omega
  have h4 : ¬ (d : Int) < L.length := by omega
  rw [HFU.out, hM']
  clear hM hms hU hus hM' hL hlm hll hn hm
  obtain ⟨w1, hw1⟩ : ∃ W, w.alloc (.cells (tsE A n c B m d).toArray 25) = W := ⟨_, rfl⟩
  obtain ⟨w2, hw2⟩ : ∃ W, w1.alloc (.cells (tsE none 0 0 none 0 0).toArray 25) = W := ⟨_, rfl⟩
  obtain ⟨w3, hw3⟩ : ∃ W, w2.alloc (.cells (tsE A M'.length c none 0 0).toArray 25) = W := ⟨_, rfl⟩
  have b1 : Below w.heap.size w w1 := by rw [← hw1]; exact cur_new _ _
  have b2 : Below w1.heap.size w1 w2 := by rw [← hw2]; exact cur_new _ _
  have b3 : Below w2.heap.size w2 w3 := by rw [← hw3]; exact cur_new _ _
  have k1 : Blk w1 w.heap.size 25 (tsE A n c B m d) := by rw [← hw1]; exact Blk.new _ _ _
  have k2 : Blk w2 w1.heap.size 25 (tsE none 0 0 none 0 0) := by rw [← hw2]; exact Blk.new _ _ _
  have k3 : Blk w3 w2.heap.size 25 (tsE A M'.length c none 0 0) := by rw [← hw3]; exact Blk.new _ _ _
  have hz1 : w1.heap.size = w.heap.size + 1 := by rw [← hw1]; simp
  have hz2 : w2.heap.size = w.heap.size + 2 := by rw [← hw2]; simp; omega
  have HB := Lib.hid (cur_step1 (cur_step1 b1 b2) b3)
  have HK1 := Lib.hid ((k1.to b2).to b3)
  have HK2 := Lib.hid (show Blk w3 (w.heap.size + 1) 25 (tsE none 0 0 none 0 0) by rw [← hz1]; exact k2.to b3)
  have HK3 := Lib.hid (show Blk w3 (w.heap.size + 2) 25 (tsE A M'.length c none 0 0) by rw [← hz2]; exact k3)
  have SW := Lib.hid (show ((w.alloc (.cells (tsE A n c B m d).toArray 25)).alloc (.cells (tsE none 0 0 none 0 0).toArray 25)).alloc (.cells (tsE A M'.length c none 0 0).toArray 25) = w3 by rw [hw1, hw2, hw3])
  clear hz1 hz2 hw1 hw2 hw3 b1 b2 b3 k1 k2 k3
  go_enter Try.func11, Try.ntmps11
  go_upto_region 2 with (fail)
  change Code.wp _ _ _ _ (((w.alloc (.cells (tsE A n c B m d).toArray 25)).alloc (.cells (tsE none 0 0 none 0 0).toArray 25)).alloc (.cells (tsE A M'.length c none 0 0).toArray 25))
  rw [SW.out]
  have d1 : w3.cell? ⟨w.heap.size, 1, none⟩ = some (.slice B m d) := HK1.out.cell 1
  have dl := HK1.out.lt
  obtain ⟨g2, hg2⟩ : ∃ q, w.heap.size + 1 = q := ⟨_, rfl⟩
  obtain ⟨g3, hg3⟩ : ∃ q, w.heap.size + 2 = q := ⟨_, rfl⟩
  obtain ⟨g1, hg1⟩ : ∃ q, w.heap.size = q := ⟨_, rfl⟩
  try rw [show w.heap.size + 1 + 1 = w.heap.size + 2 from rfl]
  rw [hg2] at HK2 ⊢
  rw [hg3] at HK3 ⊢
  have HG := Lib.hid (show g1 = w.heap.size ∧ g2 = w.heap.size + 1 ∧ g3 = w.heap.size + 2 from ⟨hg1.symm, hg2.symm, hg3.symm⟩)
  rw [hg1] at d1 dl ⊢
  clear hg1 hg2 hg3 SW
  go_wp2_with (fail)
  go_loopw [22] (fun iv wr => ∃ (k : Nat) (B9 : Option Addr) (d9 : Nat), k ≤ L.length ∧ iv = .int .i64 k ∧ Blk wr g3 25 (tsE A M'.length c B9 ((L.take k).map cutU).length d9) ∧ Blk wr g2 25 (tsE none 0 0 none 0 0) ∧ OwnL umE 3 32 w3.heap.size wr (.slice B9 ((L.take k).map cutU).length d9) ((L.take k).map cutU) ∧ Below w.heap.size w wr ∧ w3.heap.size ≤ wr.heap.size) (fun i _ => L.length - (intOf i).toNat)
  case atStart => exact ⟨0, none, 0, by omega, rfl, HK3.out, HK2.out, World.ownsRow_nil _ _ _ _, HB.out, Nat.le_refl _⟩
  case round =>
    have HW3 := Lib.hid (show g3 < w3.heap.size from HK3.out.lt)
    clear HK1 HK2 HK3 HB d1 dl
    obtain ⟨k, B9, d9, hk, rfl, hk3, hk2, ho, hb, hws⟩ := hrel
    have HK3 := Lib.hid hk3
    have HK2 := Lib.hid hk2
    have HO := Lib.hid ho
    have HB := Lib.hid hb
    have HWS := Lib.hid hws
    clear hk3 hk2 ho hb hws
    rename World => wo
    by_cases hkl : k < L.length
    · obtain ⟨⟨xn, xt, xs, xA, xc⟩, hx⟩ : ∃ x, L[k]? = some x := ⟨_, List.getElem?_eq_getElem hkl⟩
      have hraw := HUS.out _ (List.mem_of_getElem? hx)
      obtain ⟨b5, off5, hB5, hb5l, hcl5⟩ := HU.out.at_ HB.out hx
      obtain ⟨e0, e1, e2⟩ := um_cells hcl5
      dsimp only at e0 e1 e2
      have hxl : xs.length ≤ xc := hraw.le
      have hxc : xc ≤ 9223372036854775807 := hraw.cap
      obtain ⟨ys, hys⟩ : ∃ l, xs.take 8 = l := ⟨_, rfl⟩
      have hyl : min xs.length 8 = ys.length := by rw [← hys]; simp; omega
      have hmin3 : min (xs.length : Int) 8 = (ys.length : Nat) := by omega
      have h5 : (ys.length : Int) ≤ xc := by omega
      have h6 : ¬ (xc : Int) < ys.length := by omega
      have HNX := Lib.hid (show (L.take (k + 1)).map cutU = (L.take k).map cutU ++ [⟨xn, xt, ys, xA, xc⟩] by rw [List.take_add_one, hx, List.map_append, ← hys]; rfl)
      rw [hB5]
      have HB5 := Lib.hid hB5
      have hk8 : k < 8 := by omega
      obtain ⟨N, hN⟩ : ∃ N, (L.take k).map cutU = N := ⟨_, rfl⟩
      have HNl := Lib.hid (show N.length = k by rw [← hN]; simp; omega)
      rw [hN] at HO HNX HK3
      obtain ⟨xl, hxl2⟩ : ∃ q, xs.length = q := ⟨_, rfl⟩
      rw [hxl2] at e2 hmin3 hxl
      have hb5w : b5 < wo.heap.size := Nat.lt_of_lt_of_le hb5l HB.out.size
      clear hcl5 hx hraw hys hyl hB5 hN hxl2
      go_upto_region 5 with (fail)
      have hb6 := cur_new wo (.cells #[.string xn, .string xt, .slice xA xl xc] 32)
      have hk6 := Blk.new wo 32 [.string xn, .string xt, .slice xA xl xc]
      generalize wo.alloc (.cells #[.string xn, .string xt, .slice xA xl xc] 32) = w6 at hb6 hk6 ⊢
      obtain ⟨g6, hg6⟩ : ∃ q, wo.heap.size = q := ⟨_, rfl⟩
      rw [hg6] at hk6 ⊢
      have HG6 := Lib.hid (show g3 ≠ g6 ∧ g2 ≠ g6 ∧ w3.heap.size ≤ g6 from by
        have q1 := HK3.out.lt
        have q2 := HK2.out.lt
        have q3 := HWS.out
        exact ⟨by omega, by omega, by omega⟩)
      have f2 : w6.cell? ⟨g6, 2, none⟩ = some (.slice xA xl xc) := hk6.cell 2
      have fz := hk6.frozen 2
      have fl := hk6.lt
      obtain ⟨w7, hw7⟩ : ∃ W, w6.setCell ⟨g6, 2, none⟩ (.slice xA ys.length xc) = W := ⟨_, rfl⟩
      have hF7 : Far [g6] w6 w7 := by rw [← hw7]; exact Far.cell w6 g6 2 _
      have HK7 := Lib.hid (show Blk w7 g6 32 [.string xn, .string xt, .slice xA ys.length xc] by rw [← hw7]; exact hk6.set 2 _)
      have HK37 := Lib.hid ((HK3.out.to hb6).far hF7 (by simp; exact HG6.out.1))
      have HK27 := Lib.hid ((HK2.out.to hb6).far hF7 (by simp; exact HG6.out.2.1))
      have HO7 := Lib.hid (own_far (own_below HO.out hb6 (Nat.le_refl _)) hF7 (fun b hb e => by simp at e; have q := (own_in HO.out b hb).2; omega))
      have HB7 := Lib.hid (show Below w.heap.size w w7 from (cur_step1 HB.out hb6).trans (hF7.below (cur_step1 HB.out hb6).size (fun y hy => by simp at hy; have q1 := HB.out.size; omega)))
      have HS7 := Lib.hid (show w3.heap.size ≤ w7.heap.size from by have q1 := HWS.out; have q2 := hb6.size; have q3 := hF7.size; omega)
      have S7 := Lib.hid hw7
      clear hb6 hk6 hg6 hw7 hF7 e0 e1 e2
      go_upto_region 6 with (fail)
      rw [S7.out]
      have d0 : w7.cell? ⟨g6, 0, none⟩ = some (.string xn) := HK7.out.cell 0
      have d1 : w7.cell? ⟨g6, 1, none⟩ = some (.string xt) := HK7.out.cell 1
      have d2 : w7.cell? ⟨g6, 2, none⟩ = some (.slice xA ys.length xc) := HK7.out.cell 2
      have d3 : w7.cell? ⟨g3, 1, none⟩ = some (.slice B9 N.length d9) := HK37.out.cell 1
      have dl6 := HK7.out.lt
      have dl3 := HK37.out.lt
      obtain ⟨w8, hw8⟩ : ∃ W, w7.alloc (.cells (umE ⟨xn, xt, ys, xA, xc⟩).toArray 32) = W := ⟨_, rfl⟩
      have HB8 := Lib.hid (show Below w7.heap.size w7 w8 by rw [← hw8]; exact cur_new _ _)
      have HE8 := Lib.hid (show w8.heap[w7.heap.size]? = some (.cells (umE ⟨xn, xt, ys, xA, xc⟩).toArray 32 (0, 0)) by rw [← hw8]; exact heap_alloc_new _ _)
      have S8 := Lib.hid hw8
      clear hw8 f2 fz fl
      go_wp2_with (at_builtin; change wpList _ _ _ _ _ (w7.alloc (.cells (umE ⟨xn, xt, ys, xA, xc⟩).toArray 32)); rw [S8.out]; refine wpList_app1 Try.umElem w8 rfl (.tmp 35) (.tmp 37) rfl w3.heap.size B9 d9 N (by rfl) (own_below HO7.out HB8.out (Nat.le_refl _)) ⟨xn, xt, ys, xA, xc⟩ w7.heap.size 1 (by rfl) HE8.out (by have := HNl.out; unfold maxLen; omega) (by have := HNl.out; omega) (Nat.le_trans HS7.out HB8.out.size) ?_; intro g9 cap9 w9 ha; have HA9 := Lib.hid ha; have hk9 := (HK37.out.to HB8.out).far (Far.grown ha.grown (fun b hb => adB_own hb)) (fun e => by have q := (own_in HO7.out g3 e).1; have q2 := HW3.out; omega); have k9 := hk9.cell 1; have z9 := hk9.frozen 1; have l9 := hk9.lt; have HK9 := Lib.hid hk9; clear ha hk9)
      have HFA := Lib.hid (show Far (adB B9) w8 w9 from Far.grown HA9.out.grown (fun b hb => adB_own hb))
      have HOF := Lib.hid (show OwnL umE 3 32 w3.heap.size w9 (.slice (some ⟨g9, 0, none⟩) (N.length + 1) cap9) (N ++ [⟨xn, xt, ys, xA, xc⟩]) from HA9.out.one rfl)
      have hFc := Far.cell w9 g3 1 (.slice (some ⟨g9, 0, none⟩) (N.length + 1) cap9)
      have HO10 := Lib.hid (own_far HOF.out hFc (fun b hb e => by simp [adB] at hb e; have q := (own_in HOF.out g9 (by simp [adB])).1; have q2 := HW3.out; omega))
      have HK10 := Lib.hid (show Blk (w9.setCell ⟨g3, 1, none⟩ (.slice (some ⟨g9, 0, none⟩) (N.length + 1) cap9)) g3 25 (tsE A M'.length c (some ⟨g9, 0, none⟩) (N.length + 1) cap9) from HK9.out.set 1 _)
      have HK210 := Lib.hid (((HK27.out.to HB8.out).far HFA.out (fun e => by have q := (own_in HO7.out g2 e).1; have q2 := HW3.out; have q3 := HG.out; omega)).far hFc (by simp; have q3 := HG.out; omega))
      have HB10 := Lib.hid (show Below w.heap.size w (w9.setCell ⟨g3, 1, none⟩ (.slice (some ⟨g9, 0, none⟩) (N.length + 1) cap9)) from ((cur_step1 HB7.out HB8.out).trans (HFA.out.below (cur_step1 HB7.out HB8.out).size (fun y hy => by have q := (own_in HO7.out y hy).1; have q2 := HW3.out; have q3 := HG.out; omega))).trans (hFc.below (Nat.le_trans (cur_step1 HB7.out HB8.out).size HFA.out.size) (fun y hy => by simp at hy; have q3 := HG.out; omega)))
      have HS10 := Lib.hid (show w3.heap.size ≤ (w9.setCell ⟨g3, 1, none⟩ (.slice (some ⟨g9, 0, none⟩) (N.length + 1) cap9)).heap.size from Nat.le_trans HS7.out (Nat.le_trans HB8.out.size (Nat.le_trans HFA.out.size hFc.size)))
      clear hFc
      go_wp2_with (fail)
      first
      | (go_roundw
         case rel => exact ⟨k + 1, some ⟨g9, 0, none⟩, cap9, by omega, by simp, by rw [HNX.out, List.length_append]; exact HK10.out, HK210.out, by rw [HNX.out, List.length_append]; exact HO10.out, HB10.out, HS10.out⟩
         case measure => simp [intOf]; omega)
      | exact ⟨⟨k + 1, some ⟨g9, 0, none⟩, cap9, by omega, by simp, by rw [HNX.out, List.length_append]; exact HK10.out, HK210.out, by rw [HNX.out, List.length_append]; exact HO10.out, HB10.out, HS10.out⟩, by simp [intOf]; omega⟩
    · have HTA := Lib.hid (show (L.take k).map cutU = L.map cutU by rw [List.take_of_length_le (by omega)])
      rw [HTA.out] at HK3 HO
      obtain ⟨wz, hwz⟩ : ∃ W, wo.setRow g2 (tsE A M'.length c B9 (L.map cutU).length d9).toArray = W := ⟨_, rfl⟩
      have hFz : Far [g2] wo wz := by rw [← hwz]; exact ⟨rfl, rfl, rfl, by simp [World.setRow], fun b hb hn => heap_row_other wo g2 b _ (by simpa using hn)⟩
      have HTK := Lib.hid (show TaskR wz A B9 M' (L.map cutU) from by
        have hro := own_rd umE_len HO.out
        have hnb : ∀ b ∈ adB B9, b ∉ [g2] := fun b hb e => by simp at e; have q := (own_in HO.out b hb).1; have q2 := HW3.out; have q3 := HG.out; omega
        have hold : ∀ {α : Type} {enc : α → List Value} {size : Nat} {A' : Option Addr} {l : List α}, Rd enc size w w.heap.size A' l → Rd enc size wz wz.heap.size A' l := fun h => by
          intro i x hx
          obtain ⟨b, off, e, hl, hc⟩ := h i x hx
          have hb : wz.heap[b]? = w.heap[b]? := (hFz.block b (Nat.lt_of_lt_of_le hl HB.out.size) (by simp; have q3 := HG.out; omega)).trans (HB.out.block b hl)
          exact ⟨b, off, e, Nat.lt_of_lt_of_le hl (Nat.le_trans HB.out.size hFz.size), fun j u hu => (World.cell?_of_block (a := ⟨b, off + i * _ + j, none⟩) hb).trans (hc j u hu)⟩
        refine ⟨hold HM.out, ⟨rd_far hro hFz hnb, fun y hy => ?_⟩, HMS.out, fun y hy => ?_, by omega, by simp; omega⟩
        · obtain ⟨z, hz, rfl⟩ := List.mem_map.1 hy
          exact hold ((HUS.out z hz).rd.pre 8)
        · obtain ⟨z, hz, rfl⟩ := List.mem_map.1 hy
          exact ⟨(HUS.out z hz).nm, (HUS.out z hz).tm, by show (z.ds.take 8).length ≤ _; simp; omega⟩)
      have HBZ := Lib.hid (show Below w.heap.size w wz from HB.out.trans (hFz.below HB.out.size (fun y hy => by simp at hy; have q3 := HG.out; omega)))
      have SZ := Lib.hid hwz
      clear hwz hFz
      go_upto_region 8 with (fail)
      refine wp_region_lit ?_
      refine wpList_loadC rfl _ 25 rfl g3 25 (tsE A M'.length c B9 (L.map cutU).length d9) _ Try.underlying25 rfl (by rw [show (tsE A M'.length c B9 (L.map cutU).length d9).length = 2 from rfl]; kernel_rfl) (by rfl) HK3.out ?_
      refine wpList_storeC rfl _ _ 25 rfl g2 25 (tsE none 0 0 none 0 0) (tsE A M'.length c B9 (L.map cutU).length d9).toArray (by rw [show (tsE A M'.length c B9 (L.map cutU).length d9).toArray.size = 2 from rfl]; kernel_rfl) (by rfl) (by rfl) HK2.out (by rfl) (by simp [tsE, Value.oneCell']) ?_
      go_wp2_with (fail)
      refine ret_cell (g := g2) (xs := tsE A M'.length c B9 (L.map cutU).length d9) rfl rfl (blk_row HK2.out _) Try.underlying25 rfl (by rw [show (tsE A M'.length c B9 (L.map cutU).length d9).length = 2 from rfl]; kernel_rfl) rfl ?_
      rw [SZ.out]
      exact ⟨⟨B9, d9, rfl, HTK.out⟩, HBZ.out⟩
end Go.Proofs.Ytckbhdokfkabfaa
