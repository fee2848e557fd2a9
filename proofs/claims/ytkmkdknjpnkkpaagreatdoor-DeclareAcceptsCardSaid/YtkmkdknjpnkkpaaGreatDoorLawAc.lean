/-
  Chapter 47: the law DeclareAccepts: the walk.
-/
import Derived.Test.YtkmkdknjpnkkpaaGreatDoorLawTb
import Derived.Test.YtkmkdknjpnkkpaaGreatDoorAccR47
import Derived.RegionTactic
import Derived.Deep.RegionHeld3
set_option linter.unusedSimpArgs false
set_option linter.unusedVariables false
namespace Go.Proofs.YtkmkdknjpnkkpaaGreatDoor
open Go.RowKit
set_option maxRecDepth 100000
set_option maxHeartbeats 4000000
theorem rd2_nil (w : World) (B : Nat) (A : Option Addr) : Rd2 w B A [] := fun k x hx => by simp at hx
abbrev x3L (x0 x1 x2 : Int) : List Value := [.int .i64 x0, .int .i64 x1, .int .i64 x2]
theorem x3_cells {w : World} {g : Nat} {x0 x1 x2 : Int} {e : TypeId} (h : Blk w g e (x3L x0 x1 x2)) : w.cell? ⟨g, 0, none⟩ = some (.int .i64 x0) ∧ w.cell? ⟨g, 1, none⟩ = some (.int .i64 x1) ∧ w.cell? ⟨g, 2, none⟩ = some (.int .i64 x2) := ⟨h.cell 0, h.cell 1, h.cell 2⟩
theorem rw_read {w : World} {base : Nat} {r : Rw} (h : OwnL inE 1 2 base w (rwV r) r.l) {j : Nat} {u : Int} (hu : r.l[j]? = some u) : w.cell? ⟨r.g, j, none⟩ = some (.int .i64 u) := by
  obtain ⟨A, c, e, hrd, _⟩ := OwnL.rd inE_len h
  injection e with e1 _ _
  subst e1
  obtain ⟨b, off, e, _, hc⟩ := hrd j u hu
  injection e with e
  injection e with e1 e2
  subst e1 e2
  simpa using in_cell hc
theorem rd_of_cells {w : World} {B g : Nat} {l : List Int} (hg : g < B) (h : ∀ (j : Nat) u, l[j]? = some u → w.cell? ⟨g, j, none⟩ = some (.int .i64 u)) : Rd inE 1 w B (some ⟨g, 0, none⟩) l := by
  intro k x hx
  refine ⟨g, 0, rfl, hg, fun j u hu => ?_⟩
  cases j with
  | zero => simp [inE] at hu; subst hu; simpa using h k x hx
  | succ j => simp [inE] at hu
theorem outer_read {w : World} {base : Nat} {A : Option Addr} {n c : Nat} {rs : List Rw} (h : Tab w base (.slice A n c) rs) {k : Nat} {r : Rw} (hr : rs[k]? = some r) : ∃ g, A = some ⟨g, 0, none⟩ ∧ base ≤ g ∧ g < w.heap.size ∧ w.cell? ⟨g, k, none⟩ = some (rwV r) ∧ g ≠ r.g := by
  obtain ⟨A', c', e, hrd, hz⟩ := OwnL.rd rwE_len h.own
  injection e with e1 _ _
  subst e1
  obtain ⟨b, off, rfl, hb, hc⟩ := hrd k r hr
  obtain ⟨h1, rfl⟩ := hz b off rfl
  have := hc 0 (rwV r) rfl
  refine ⟨b, rfl, h1, hb, by simpa using this, fun e => h.far r (List.mem_of_getElem? hr) ?_⟩
  rw [← e]; rfl
theorem tab_ne {rs : List Rw} (h : rs.Pairwise fun a b => a.g ≠ b.g) {i j : Nat} {a b : Rw} (hi : rs[i]? = some a) (hj : rs[j]? = some b) (hne : i ≠ j) : a.g ≠ b.g := by
  obtain ⟨hi', rfl⟩ := List.getElem?_eq_some_iff.1 hi
  obtain ⟨hj', rfl⟩ := List.getElem?_eq_some_iff.1 hj
  rcases Nat.lt_or_gt_of_ne hne with h1 | h1
  · exact List.pairwise_iff_getElem.1 h i j hi' hj' h1
  · exact fun e => List.pairwise_iff_getElem.1 h j i hj' hi' h1 e.symm
theorem Tab.setEl {w : World} {base : Nat} {A : Option Addr} {n c : Nat} {rs : List Rw} {k i : Nat} {r : Rw} {x : Int} (h : Tab w base (.slice A n c) rs) (hr : rs[k]? = some r) (hi : i < r.l.length) :
    Rd2 (w.setCell ⟨r.g, i, none⟩ (.int .i64 x)) w.heap.size A ((rs.map Rw.l).set k (r.l.set i x)) := by
  have hrb := own_blk (h.rows r (List.mem_of_getElem? hr))
  have hfr : w.heap.size = (w.setCell ⟨r.g, i, none⟩ (.int .i64 x)).heap.size := by simp
  have hot : ∀ g o, g ≠ r.g → (w.setCell ⟨r.g, i, none⟩ (.int .i64 x)).cell? ⟨g, o, none⟩ = w.cell? ⟨g, o, none⟩ := fun g o hne => World.cell?_of_block (a := ⟨g, o, none⟩) (heap_setCell_other w ⟨r.g, i, none⟩ g _ hne)
  intro j y hy
  rw [List.getElem?_set] at hy
  by_cases hjk : k = j
  · subst hjk
    rw [if_pos rfl] at hy
    split at hy
    · injection hy with hy
      subst hy
      obtain ⟨g, rfl, _, hg, hc, hne⟩ := outer_read h hr
      refine ⟨g, 0, rfl, hg, some ⟨r.g, 0, none⟩, r.c, ?_, rd_of_cells hrb.2 fun j u hu => ?_⟩
      · rw [hot g _ hne, List.length_set]; simpa using hc
      · rw [List.getElem?_set] at hu
        by_cases hij : i = j
        · subst hij
          rw [if_pos rfl, if_pos hi] at hu
          injection hu with hu
          subst hu
          have hh := rw_read (h.rows r (List.mem_of_getElem? hr)) (List.getElem?_eq_getElem hi)
          exact World.cell?_setCell_same w ⟨r.g, i, none⟩ _ (by rw [hh])
        · rw [if_neg hij] at hu
          rw [World.cell?_setCell_other w ⟨r.g, i, none⟩ ⟨r.g, j, none⟩ _ (by simp <;> omega)]
          exact rw_read (h.rows r (List.mem_of_getElem? hr)) hu
    · cases hy
  · rw [if_neg hjk, List.getElem?_map] at hy
    obtain ⟨r2, hr2, rfl⟩ := Option.map_eq_some_iff.1 hy
    obtain ⟨g, rfl, _, hg, hc, hne⟩ := outer_read h hr2
    obtain ⟨g', e', _, _, _, hne'⟩ := outer_read h hr
    injection e' with e'
    injection e' with e'
    subst e'
    have hd : r2.g ≠ r.g := tab_ne h.dist hr2 hr (fun e => hjk e.symm)
    have hr2b := own_blk (h.rows r2 (List.mem_of_getElem? hr2))
    refine ⟨g, 0, rfl, hg, some ⟨r2.g, 0, none⟩, r2.c, ?_, rd_of_cells hr2b.2 fun j u hu => ?_⟩
    · rw [hot g _ hne']; simpa using hc
    · rw [hot r2.g _ hd]
      exact rw_read (h.rows r2 (List.mem_of_getElem? hr2)) hu
theorem Tab.appRow {w w1 : World} {base : Nat} {go n c g2 cap : Nat} {rs : List Rw} {r : Rw} {x : Int} (h : Tab w base (.slice (some ⟨go, 0, none⟩) n c) rs) (hr : rs[0]? = some r)
    (ha : App w w1 base 2 1 (rwV r) g2 cap r.l.length 1 (r.l.flatMap inE) (inE x)) :
    Rd2 (w1.setCell ⟨go, 0, none⟩ (.slice (some ⟨g2, 0, none⟩) (r.l.length + 1) cap)) w1.heap.size (some ⟨go, 0, none⟩) ((rs.map Rw.l).set 0 (r.l ++ [x])) := by
  obtain ⟨g, e, hgb, hgo, hc0, hne0⟩ := outer_read h hr
  injection e with e
  injection e with e
  subst e
  have hrb := own_blk (h.rows r (List.mem_of_getElem? hr))
  have hown := own_blk (ha.one rfl)
  have hsz := ha.grown.size
  have hfar : ∀ b o, b < w.heap.size → b ≠ r.g → w1.cell? ⟨b, o, none⟩ = w.cell? ⟨b, o, none⟩ := fun b o hb hne => ha.far hb (fun e => hne (by injection e with e; exact e.symm))
  have hg2 : g2 ≠ go := by
    rcases ha.at_ with h1 | h1
    · injection h1 with h1
      have h1 : r.g = g2 := h1
      omega
    · omega
  have hot : ∀ g o, g ≠ go → (w1.setCell ⟨go, 0, none⟩ (.slice (some ⟨g2, 0, none⟩) (r.l.length + 1) cap)).cell? ⟨g, o, none⟩ = w1.cell? ⟨g, o, none⟩ := fun g o hne => World.cell?_of_block (a := ⟨g, o, none⟩) (heap_setCell_other w1 ⟨go, 0, none⟩ g _ hne)
  have hc1 : w1.cell? ⟨go, 0, none⟩ = some (rwV r) := (hfar go 0 hgo hne0).trans hc0
  intro j y hy
  rw [List.getElem?_set] at hy
  by_cases hjk : 0 = j
  · subst hjk
    rw [if_pos rfl] at hy
    split at hy
    · injection hy with hy
      subst hy
      refine ⟨go, 0, rfl, by omega, some ⟨g2, 0, none⟩, cap, ?_, rd_of_cells hown.2 fun j u hu => ?_⟩
      · rw [List.length_append]
        exact World.cell?_setCell_same w1 ⟨go, 0, none⟩ _ (by rw [hc1])
      · rw [hot g2 _ hg2]
        exact rw_read (base := base) (r := ⟨g2, cap, r.l ++ [x]⟩) (by have h9 := ha.one rfl; unfold rwV; rw [List.length_append]; exact h9) hu
    · cases hy
  · rw [if_neg hjk, List.getElem?_map] at hy
    obtain ⟨r2, hr2, rfl⟩ := Option.map_eq_some_iff.1 hy
    obtain ⟨g, e', _, hg, hc, hne⟩ := outer_read h hr2
    injection e' with e'
    injection e' with e'
    subst e'
    have hd : r2.g ≠ r.g := tab_ne h.dist hr2 hr (fun e => hjk e.symm)
    have hr2b := own_blk (h.rows r2 (List.mem_of_getElem? hr2))
    refine ⟨go, 0, rfl, by omega, some ⟨r2.g, 0, none⟩, r2.c, ?_, rd_of_cells (by omega) fun i u hu => ?_⟩
    · rw [World.cell?_setCell_other w1 ⟨go, 0, none⟩ ⟨go, 0 + j, none⟩ _ (by simp <;> omega), hfar go _ hgo hne0]; simpa using hc
    · rw [hot r2.g _ (fun e => hne e.symm), hfar r2.g _ hr2b.2 hd]
      exact rw_read (h.rows r2 (List.mem_of_getElem? hr2)) hu
theorem law_ac (t : Tk) (A W : Option Addr) (c wc : Nat) (x0 x1 x2 mx : Int) (w : World) (hx0 : -9223372036854775808 ≤ x0 ∧ x0 ≤ 9223372036854775807) (hx1 : -9223372036854775808 ≤ x1 ∧ x1 ≤ 9223372036854775807) (hd : Rd ocE 3 w w.heap.size A t.d) (hw : Rd2 w w.heap.size W t.win) (hm : w.cell? ⟨0, 0, none⟩ = some (.int .i64 mx)) :
    Calls Tryz.prog 6 #[tkV t A W c wc, .agg #[.int .i64 x0, .int .i64 x1, .int .i64 x2]] w fun e w' => e = .returned (.bool true) ∧ Below w.heap.size w w' := by
  have hb0 := cur_two w (.cells (tkL t A W c wc).toArray 25) (.cells (x3L x0 x1 x2).toArray 42)
  have hbk : Blk ((w.alloc (.cells (tkL t A W c wc).toArray 25)).alloc (.cells (x3L x0 x1 x2).toArray 42)) w.heap.size 25 (tkL t A W c wc) := (Blk.new w _ _).to (cur_new _ _)
  have hbx : Blk ((w.alloc (.cells (tkL t A W c wc).toArray 25)).alloc (.cells (x3L x0 x1 x2).toArray 42)) (w.heap.size + 1) 42 (x3L x0 x1 x2) := two_new w _ _
  have HM := Lib.hid ((hb0.cell (p := ⟨0, 0, none⟩) (Lib.lt_of_cell hm)).trans hm)
  unfold tkL at hbk hb0 HM hbx
  unfold x3L at hbk hb0 HM hbx
  have HD := Lib.hid hd
  have HW := Lib.hid hw
  clear hd hw hm
  cases hs : smB t
  · have HS := Lib.hid hs
    clear hs
    go_enter Tryz.func6, Tryz.ntmps6
    go_wp2_with fail
    refine (awake_d mx _ HM.out).mono ?_
    rintro e w1 ⟨rfl, hb1⟩
    have HB1 := Lib.hid (cur_step1 hb0 hb1)
    obtain ⟨t0, t1, t2, t3, t4⟩ := tk_cells (hbk.to hb1)
    clear hb1
    go_wp2_with fail
    refine (small_f t A W c wc false _ (HW.out.to HB1.out) HS.out).mono ?_
    rintro e w2 ⟨rfl, hb2⟩
    have HB2 := Lib.hid (cur_step1 HB1.out hb2)
    clear hb2
    go_wp2_with fail
    go_ret
    exact ⟨rfl, HB2.out⟩
  have HS := Lib.hid hs
  have hsm := sm_of hs
  clear hs
  obtain ⟨e0, he0⟩ : ∃ e0, ckT t = e0 := ⟨_, rfl⟩
  have HE0 := Lib.hid he0
  clear he0
  by_cases h0 : e0 ≠ 0
  · have HV := Lib.hid (show TabT t = ([], e0) by unfold TabT; rw [HE0.out, if_pos h0])
    go_enter Tryz.func6, Tryz.ntmps6
    go_wp2_with fail
    refine (awake_d mx _ HM.out).mono ?_
    rintro e w1 ⟨rfl, hb1⟩
    have HB1 := Lib.hid (cur_step1 hb0 hb1)
    have HK1 := Lib.hid (hbk.to hb1)
    have HX1 := Lib.hid (hbx.to hb1)
    obtain ⟨t0, t1, t2, t3, t4⟩ := tk_cells HK1.out
    clear hb1
    go_wp2_with fail
    refine (small_f t A W c wc true _ (HW.out.to HB1.out) HS.out).mono ?_
    rintro e w2 ⟨rfl, hb2⟩
    have HB2 := Lib.hid (cur_step1 HB1.out hb2)
    have HK2 := Lib.hid (HK1.out.to hb2)
    have HX2 := Lib.hid (HX1.out.to hb2)
    clear hb2 t0 t1 t2 t3 t4 HK1
    obtain ⟨t0, t1, t2, t3, t4⟩ := tk_cells HK2.out
    go_wp2_with fail
    refine (Table_r t A W c wc _ hsm (HD.out.to HB2.out) (HW.out.to HB2.out)).mono ?_
    rintro e w3 ⟨tv, rfl, rs, htab, hrs, hb3⟩
    have HB3 := Lib.hid (cur_step1 HB2.out hb3)
    have HK3 := Lib.hid (HK2.out.to hb3)
    have HX3 := Lib.hid (HX2.out.to hb3)
    have hbase : w.heap.size + 2 ≤ w2.heap.size := HX2.out.lt
    clear hb3 t0 t1 t2 t3 t4 HK2
    obtain ⟨t0, t1, t2, t3, t4⟩ := tk_cells HK3.out
    obtain ⟨x0c, x1c, x2c⟩ := x3_cells HX3.out
    rw [HV.out] at hrs ⊢
    have hrs := List.map_eq_nil_iff.1 hrs
    subst hrs
    obtain ⟨LA, lc, rfl⟩ := htab.form
    clear htab h0
    have HRl := Lib.hid (rd2_nil w3 w3.heap.size LA)
    have HLL := Lib.hid (show ([] : List (List Int)).length ≤ 1000000 ∧ ∀ x ∈ ([] : List (List Int)), x.length ≤ 1000000 from ⟨by simp, by simp⟩)
    go_wp2_with fail
    obtain ⟨wl, rfl⟩ : ∃ wl : World, wl = w3 := ⟨_, rfl⟩
    have HBl := Lib.hid HB3.out
    have HKl := Lib.hid HK3.out
    clear t0 t1 t2 t3 t4 x0c x1c x2c
    obtain ⟨CS, hCS⟩ : ∃ CS : List (Nat × Nat × Value), CS = [(w.heap.size, 0, .int .i64 t.ov), (w.heap.size, 1, .int .i64 t.ld), (w.heap.size, 2, .int .i64 t.sp), (w.heap.size, 3, .slice A t.d.length c), (w.heap.size, 4, .slice W t.win.length wc)] := ⟨_, rfl⟩
    obtain ⟨t0, t1, t2, t3, t4⟩ := tk_cells HKl.out
    have l3 := HKl.out.lt
    have K3 : Keep wl wl CS := by rw [hCS]; exact Keep.start (Below.refl _ _) (by simp [t0, t1, t2, t3, t4, l3])
    have k0 : ∀ s : Wd wl CS, s.w.cell? ⟨w.heap.size, 0, none⟩ = some (.int .i64 t.ov) := fun s => s.h.get (by simp [hCS])
    have k1 : ∀ s : Wd wl CS, s.w.cell? ⟨w.heap.size, 1, none⟩ = some (.int .i64 t.ld) := fun s => s.h.get (by simp [hCS])
    have k2 : ∀ s : Wd wl CS, s.w.cell? ⟨w.heap.size, 2, none⟩ = some (.int .i64 t.sp) := fun s => s.h.get (by simp [hCS])
    have k3 : ∀ s : Wd wl CS, s.w.cell? ⟨w.heap.size, 3, none⟩ = some (.slice A t.d.length c) := fun s => s.h.get (by simp [hCS])
    have k4 : ∀ s : Wd wl CS, s.w.cell? ⟨w.heap.size, 4, none⟩ = some (.slice W t.win.length wc) := fun s => s.h.get (by simp [hCS])
    have hex : ∀ s : Wd wl CS, ∃ s' : Wd wl CS, s.w = s'.w := fun s => ⟨s, rfl⟩
    haveI hne : Nonempty (Wd wl CS) := ⟨⟨_, K3⟩⟩
    have HCS := Lib.hid hCS
    obtain ⟨v1, hv1⟩ : ∃ v1, accT t [] = v1 := ⟨_, rfl⟩
    obtain ⟨v2, hv2⟩ : ∃ v2, accT t [] = v2 := ⟨_, rfl⟩
    have HV1 := Lib.hid hv1
    have HV2 := Lib.hid hv2
    clear hCS t0 t1 t2 t3 t4 hv1 hv2
    go_wp2_with fail
    refine wp_region_wd wl CS (by kernel_rfl) (by kernel_rfl) K3.drew ?_
    repeat (go_big_quiet_step ((first
      | (go_at_call 22; (first | (guard_target = Calls _ _ #[_, .slice none 0 0] _ _; refine (Accept_p t [] A W none c wc 0 v2 _ hsm (HD.out.to (cur_step1 HBl.out (Wd.h _).1)) (HW.out.to (cur_step1 HBl.out (Wd.h _).1)) (rd2_nil _ _ _) (by simp) (by simp) HV2.out).mono ?_) | refine (Accept_p t [] A W LA c wc lc v1 _ hsm (HD.out.to (cur_step1 HBl.out (Wd.h _).1)) (HW.out.to (cur_step1 HBl.out (Wd.h _).1)) (HRl.out.to (Wd.h _).1) HLL.out.1 HLL.out.2 HV1.out).mono ?_); rintro e w9 ⟨rfl, hb9⟩; exact ⟨rfl, ⟨w9, (Wd.h _).to hb9⟩, rfl⟩)
      | (go_at_call 23; (first | (guard_target = Calls _ _ #[_, .slice none 0 0] _ _; refine (Accept_r t [] A W none c wc 0 v2 _ hsm (HD.out.to (cur_step1 HBl.out (Wd.h _).1)) (HW.out.to (cur_step1 HBl.out (Wd.h _).1)) (rd2_nil _ _ _) (by simp) (by simp) HV2.out).mono ?_) | refine (Accept_r t [] A W LA c wc lc v1 _ hsm (HD.out.to (cur_step1 HBl.out (Wd.h _).1)) (HW.out.to (cur_step1 HBl.out (Wd.h _).1)) (HRl.out.to (Wd.h _).1) HLL.out.1 HLL.out.2 HV1.out).mono ?_); rintro e w9 ⟨rfl, hb9⟩; exact ⟨rfl, ⟨w9, (Wd.h _).to hb9⟩, rfl⟩))))
    refine wpQuiet_nil ?_
    rintro w9 ⟨s9, hs9⟩
    have HB9 : Below w.heap.size w w9 := by rw [hs9]; exact cur_step1 HBl.out s9.h.1
    clear hs9 s9 k0 k1 k2 k3 k4 hex hne K3 HCS
    (try simp only [])
    go_wp2
    go_ret
    exact ⟨ret_bool (by simp), HB9⟩
  have h0' : e0 = 0 := by simpa using h0
  subst h0'
  have HV := Lib.hid (show TabT t = (tabT t, 0) by unfold TabT; rw [HE0.out, if_neg h0])
  clear h0
  have hle := rowT_le (okT_of HE0.out)
  have hov := (okT_of HE0.out).ov
  have HLE := Lib.hid hle
  clear hle
  by_cases hx : 0 ≤ x0 ∧ 0 ≤ x1
  · obtain ⟨hx0p, hx1p⟩ := hx
    obtain ⟨X0, rfl⟩ : ∃ X0 : Nat, x0 = X0 := ⟨x0.toNat, by omega⟩
    obtain ⟨X1, rfl⟩ : ∃ X1 : Nat, x1 = X1 := ⟨x1.toNat, by omega⟩
    go_enter Tryz.func6, Tryz.ntmps6
    go_wp2_with fail
    refine (awake_d mx _ HM.out).mono ?_
    rintro e w1 ⟨rfl, hb1⟩
    have HB1 := Lib.hid (cur_step1 hb0 hb1)
    have HK1 := Lib.hid (hbk.to hb1)
    have HX1 := Lib.hid (hbx.to hb1)
    obtain ⟨t0, t1, t2, t3, t4⟩ := tk_cells HK1.out
    clear hb1
    go_wp2_with fail
    refine (small_f t A W c wc true _ (HW.out.to HB1.out) HS.out).mono ?_
    rintro e w2 ⟨rfl, hb2⟩
    have HB2 := Lib.hid (cur_step1 HB1.out hb2)
    have HK2 := Lib.hid (HK1.out.to hb2)
    have HX2 := Lib.hid (HX1.out.to hb2)
    clear hb2 t0 t1 t2 t3 t4 HK1
    obtain ⟨t0, t1, t2, t3, t4⟩ := tk_cells HK2.out
    go_wp2_with fail
    refine (Table_r t A W c wc _ hsm (HD.out.to HB2.out) (HW.out.to HB2.out)).mono ?_
    rintro e w3 ⟨tv, rfl, rs, htab, hrs, hb3⟩
    have HB3 := Lib.hid (cur_step1 HB2.out hb3)
    have HK3 := Lib.hid (HK2.out.to hb3)
    have HX3 := Lib.hid (HX2.out.to hb3)
    have hbase : w.heap.size + 2 ≤ w2.heap.size := HX2.out.lt
    clear hb3 t0 t1 t2 t3 t4 HK2
    obtain ⟨t0, t1, t2, t3, t4⟩ := tk_cells HK3.out
    obtain ⟨x0c, x1c, x2c⟩ := x3_cells HX3.out
    rw [HV.out] at hrs ⊢
    obtain ⟨LA, lc, rfl⟩ := htab.form
    have hrl : rs.length = t.ov.toNat + 1 := by
      have := congrArg List.length hrs
      rw [List.length_map, tabT_len] at this
      exact this
    have HRS := Lib.hid hrs
    have HT := Lib.hid htab
    obtain ⟨k, hk⟩ : ∃ k, k = X0 % rs.length := ⟨_, rfl⟩
    have hkl : k < rs.length := by rw [hk]; exact Nat.mod_lt _ (by omega)
    obtain ⟨r, hr⟩ : ∃ r, rs[k]? = some r := ⟨_, List.getElem?_eq_getElem hkl⟩
    obtain ⟨g, rfl, hgb, hgl, hgc, hgr⟩ := outer_read htab hr
    have hrow := htab.rows r (List.mem_of_getElem? hr)
    have hrb := own_blk hrow
    have hrl2 : r.l = rowT t k := by
      have := congrArg (·[k]?) hrs
      simp only [List.getElem?_map, hr, tabT_at (show k ≤ t.ov.toNat by omega), Option.map_some] at this
      injection this
    have hrpos : 0 < r.l.length := by rw [hrl2, rowT_len]; omega
    have hr78 : r.l.length ≤ 78 := HLE.out.2 _ (by rw [hrl2]; exact List.mem_of_getElem? (tabT_at (show k ≤ t.ov.toNat by omega)))
    obtain ⟨i, hi⟩ : ∃ i, i = X1 % r.l.length := ⟨_, rfl⟩
    have hil : i < r.l.length := by rw [hi]; exact Nat.mod_lt _ hrpos
    have hcell := rw_read hrow (List.getElem?_eq_getElem hil)
    have hfz : w3.frozen? ⟨r.g, i, none⟩ = false := hrow.frozenAt i
    have hnl : rs.length ≤ 12 := by omega
    have HR := Lib.hid hr
    have HK := Lib.hid hk
    have HI := Lib.hid hi
    have hk2 : ((X0 : Int) % (rs.length : Int)) = (k : Int) := by rw [hk]; exact (Int.natCast_emod _ _).symm
    have hi2 : ((X1 : Int) % (r.l.length : Int)) = (i : Int) := by rw [hi]; exact (Int.natCast_emod _ _).symm
    have hn1 : 1 ≤ rs.length := by omega
    have HRL := Lib.hid hrl
    have HRL2 := Lib.hid hrl2
    clear hrs htab hrow hr hk hi hrl hrl2
    go_wp2_with fail
    go_quiet (fail)
    go_wp2_with fail
    rw [hk2, hi2]
    have hb5 : Below w3.heap.size w3 (w3.drewN nq) := cur_drew _ _
    have HB5 := Lib.hid (cur_step1 HB3.out hb5)
    have HK5 := Lib.hid (HK3.out.to hb5)
    have HT5 := Lib.hid (HT.out.to hb5)
    have hgc5 : (w3.drewN nq).cell? ⟨g, k, none⟩ = some (.slice (some ⟨r.g, 0, none⟩) r.l.length r.c) := hgc
    have hcell5 : (w3.drewN nq).cell? ⟨r.g, i, none⟩ = some (.int .i64 r.l[i]) := hcell
    have hfz5 : (w3.drewN nq).frozen? ⟨r.g, i, none⟩ = false := hfz
    have x2c5 : (w3.drewN nq).cell? ⟨w.heap.size + 1, 2, none⟩ = some (.int .i64 x2) := x2c
    have hsz5 : (w3.drewN nq).heap.size = w3.heap.size := rfl
    clear hgc hcell hfz x0c x1c x2c hk2 hi2 t0 t1 t2 t3 t4 hb5
    generalize w3.drewN nq = w5 at *
    go_region
    obtain ⟨wl, hwl⟩ : ∃ wl : World, wl = (w5.setCell ⟨r.g, i, none⟩ (.int .i64 x2)).drew := ⟨_, rfl⟩
    obtain ⟨ll, hll⟩ : ∃ ll : List (List Int), ll = (rs.map Rw.l).set k (r.l.set i x2) := ⟨_, rfl⟩
    have hlen : rs.length = ll.length := by rw [hll, List.length_set, List.length_map]
    have HBl := Lib.hid (show Below w.heap.size w wl by rw [hwl]; exact (below_set HB5.out (by omega) i _).drew)
    have HKl := Lib.hid (show Blk wl w.heap.size 25 (tkL t A W c wc) by rw [hwl]; exact HK5.out.other (by omega) i _)
    have HRl := Lib.hid (show Rd2 wl wl.heap.size (some ⟨g, 0, none⟩) ll by
      rw [hwl, hll]
      exact (((HT5.out.setEl HR.out hil).more (by simp)).to (Below.refl _ _).drew))
    have HLL := Lib.hid (show ll.length ≤ 1000000 ∧ ∀ x ∈ ll, x.length ≤ 1000000 by
      refine ⟨by omega, fun x hx => ?_⟩
      rw [hll] at hx
      rcases List.mem_or_eq_of_mem_set hx with h | h
      · rw [HRS.out] at h
        have := HLE.out.2 x h
        omega
      · rw [h, List.length_set]; omega)
    rw [← hwl, hlen]
    clear hwl hll hcell5 hfz5 hgc5 x2c5 hsz5 hlen
    obtain ⟨CS, hCS⟩ : ∃ CS : List (Nat × Nat × Value), CS = [(w.heap.size, 0, .int .i64 t.ov), (w.heap.size, 1, .int .i64 t.ld), (w.heap.size, 2, .int .i64 t.sp), (w.heap.size, 3, .slice A t.d.length c), (w.heap.size, 4, .slice W t.win.length wc)] := ⟨_, rfl⟩
    obtain ⟨t0, t1, t2, t3, t4⟩ := tk_cells HKl.out
    have l3 := HKl.out.lt
    have K3 : Keep wl wl CS := by rw [hCS]; exact Keep.start (Below.refl _ _) (by simp [t0, t1, t2, t3, t4, l3])
    have k0 : ∀ s : Wd wl CS, s.w.cell? ⟨w.heap.size, 0, none⟩ = some (.int .i64 t.ov) := fun s => s.h.get (by simp [hCS])
    have k1 : ∀ s : Wd wl CS, s.w.cell? ⟨w.heap.size, 1, none⟩ = some (.int .i64 t.ld) := fun s => s.h.get (by simp [hCS])
    have k2 : ∀ s : Wd wl CS, s.w.cell? ⟨w.heap.size, 2, none⟩ = some (.int .i64 t.sp) := fun s => s.h.get (by simp [hCS])
    have k3 : ∀ s : Wd wl CS, s.w.cell? ⟨w.heap.size, 3, none⟩ = some (.slice A t.d.length c) := fun s => s.h.get (by simp [hCS])
    have k4 : ∀ s : Wd wl CS, s.w.cell? ⟨w.heap.size, 4, none⟩ = some (.slice W t.win.length wc) := fun s => s.h.get (by simp [hCS])
    have hex : ∀ s : Wd wl CS, ∃ s' : Wd wl CS, s.w = s'.w := fun s => ⟨s, rfl⟩
    haveI hne : Nonempty (Wd wl CS) := ⟨⟨_, K3⟩⟩
    have HCS := Lib.hid hCS
    obtain ⟨v1, hv1⟩ : ∃ v1, accT t ll = v1 := ⟨_, rfl⟩
    obtain ⟨v2, hv2⟩ : ∃ v2, accT t [] = v2 := ⟨_, rfl⟩
    have HV1 := Lib.hid hv1
    have HV2 := Lib.hid hv2
    clear hCS t0 t1 t2 t3 t4 hv1 hv2
    go_wp2_with fail
    refine wp_region_wd wl CS (by kernel_rfl) (by kernel_rfl) K3.drew ?_
    repeat (go_big_quiet_step ((first
      | (go_at_call 22; (first | (guard_target = Calls _ _ #[_, .slice none 0 0] _ _; refine (Accept_p t [] A W none c wc 0 v2 _ hsm (HD.out.to (cur_step1 HBl.out (Wd.h _).1)) (HW.out.to (cur_step1 HBl.out (Wd.h _).1)) (rd2_nil _ _ _) (by simp) (by simp) HV2.out).mono ?_) | refine (Accept_p t ll A W (some ⟨g, 0, none⟩) c wc lc v1 _ hsm (HD.out.to (cur_step1 HBl.out (Wd.h _).1)) (HW.out.to (cur_step1 HBl.out (Wd.h _).1)) (HRl.out.to (Wd.h _).1) HLL.out.1 HLL.out.2 HV1.out).mono ?_); rintro e w9 ⟨rfl, hb9⟩; exact ⟨rfl, ⟨w9, (Wd.h _).to hb9⟩, rfl⟩)
      | (go_at_call 23; (first | (guard_target = Calls _ _ #[_, .slice none 0 0] _ _; refine (Accept_r t [] A W none c wc 0 v2 _ hsm (HD.out.to (cur_step1 HBl.out (Wd.h _).1)) (HW.out.to (cur_step1 HBl.out (Wd.h _).1)) (rd2_nil _ _ _) (by simp) (by simp) HV2.out).mono ?_) | refine (Accept_r t ll A W (some ⟨g, 0, none⟩) c wc lc v1 _ hsm (HD.out.to (cur_step1 HBl.out (Wd.h _).1)) (HW.out.to (cur_step1 HBl.out (Wd.h _).1)) (HRl.out.to (Wd.h _).1) HLL.out.1 HLL.out.2 HV1.out).mono ?_); rintro e w9 ⟨rfl, hb9⟩; exact ⟨rfl, ⟨w9, (Wd.h _).to hb9⟩, rfl⟩))))
    refine wpQuiet_nil ?_
    rintro w9 ⟨s9, hs9⟩
    have HB9 : Below w.heap.size w w9 := by rw [hs9]; exact cur_step1 HBl.out s9.h.1
    clear hs9 s9 k0 k1 k2 k3 k4 hex hne K3 HCS
    (try simp only [])
    go_wp2
    go_ret
    exact ⟨ret_bool (by simp), HB9⟩
  · have hxn : ¬ (0 ≤ x0) ∨ ¬ (0 ≤ x1) := by omega
    by_cases hx0n : 0 ≤ x0
    all_goals
      go_enter Tryz.func6, Tryz.ntmps6
      go_wp2_with fail
      refine (awake_d mx _ HM.out).mono ?_
      rintro e w1 ⟨rfl, hb1⟩
      have HB1 := Lib.hid (cur_step1 hb0 hb1)
      have HK1 := Lib.hid (hbk.to hb1)
      have HX1 := Lib.hid (hbx.to hb1)
      obtain ⟨t0, t1, t2, t3, t4⟩ := tk_cells HK1.out
      clear hb1
      go_wp2_with fail
      refine (small_f t A W c wc true _ (HW.out.to HB1.out) HS.out).mono ?_
      rintro e w2 ⟨rfl, hb2⟩
      have HB2 := Lib.hid (cur_step1 HB1.out hb2)
      have HK2 := Lib.hid (HK1.out.to hb2)
      have HX2 := Lib.hid (HX1.out.to hb2)
      clear hb2 t0 t1 t2 t3 t4 HK1
      obtain ⟨t0, t1, t2, t3, t4⟩ := tk_cells HK2.out
      go_wp2_with fail
      refine (Table_r t A W c wc _ hsm (HD.out.to HB2.out) (HW.out.to HB2.out)).mono ?_
      rintro e w3 ⟨tv, rfl, rs, htab, hrs, hb3⟩
      have HB3 := Lib.hid (cur_step1 HB2.out hb3)
      have HK3 := Lib.hid (HK2.out.to hb3)
      have HX3 := Lib.hid (HX2.out.to hb3)
      have hbase : w.heap.size + 2 ≤ w2.heap.size := HX2.out.lt
      clear hb3 t0 t1 t2 t3 t4 HK2
      obtain ⟨t0, t1, t2, t3, t4⟩ := tk_cells HK3.out
      obtain ⟨x0c, x1c, x2c⟩ := x3_cells HX3.out
      rw [HV.out] at hrs ⊢
      obtain ⟨LA, lc, rfl⟩ := htab.form
      have hrl : rs.length = t.ov.toNat + 1 := by
        have := congrArg List.length hrs
        rw [List.length_map, tabT_len] at this
        exact this
      have HRS := Lib.hid hrs
      have HT := Lib.hid htab
      obtain ⟨r, hr⟩ : ∃ r, rs[0]? = some r := ⟨_, List.getElem?_eq_getElem (by omega)⟩
      obtain ⟨g, rfl, hgb, hgl, hgc, hgr⟩ := outer_read htab hr
      have hrow := htab.rows r (List.mem_of_getElem? hr)
      have hrb := own_blk hrow
      have hrl2 : r.l = rowT t 0 := by
        have := congrArg (·[0]?) hrs
        simp only [List.getElem?_map, hr, tabT_at (show 0 ≤ t.ov.toNat by omega), Option.map_some] at this
        injection this
      have hr78 : r.l.length ≤ 78 := HLE.out.2 _ (by rw [hrl2]; exact List.mem_of_getElem? (tabT_at (show 0 ≤ t.ov.toNat by omega)))
      have hgc0 : w3.cell? ⟨g, 0, none⟩ = some (.slice (some ⟨r.g, 0, none⟩) r.l.length r.c) := hgc
      have hnl : rs.length ≤ 12 := by omega
      have hn1 : 1 ≤ rs.length := by omega
      have HR := Lib.hid hr
      have HO := Lib.hid hrow
      have HFG := Lib.hid (htab.own.frozenAt 0)
      clear hrs htab hrow hr hrl hrl2 hgc t0 t1 t2 t3 t4
      go_wp2_with fail
      refine wp_region_any (by kernel_rfl) ?_
      try (change wpAny _ _ _ _ _ _ _ (World.drew _))
      refine wpAny_take (i := 0) (v := ?_) rfl (by kernel_rfl) (by kernel_rfl) (by kernel_rfl) (fun _ _ _ h => h) (Or.inl ⟨by rfl, ?_⟩) ?_
      rotate_left
      · intro w
        go_simp
        try with_reducible rfl
      refine wpAny_take (i := 1) (v := ?_) rfl (by kernel_rfl) (by kernel_rfl) (by kernel_rfl) (fun _ _ _ h => h) (Or.inl ⟨by rfl, ?_⟩) ?_
      rotate_left
      · intro w
        go_simp
        try with_reducible rfl
      refine wpAny_take (i := 2) (v := ?_) rfl (by kernel_rfl) (by kernel_rfl) (by kernel_rfl) (fun _ _ _ h => h) (Or.inl ⟨by rfl, ?_⟩) ?_
      rotate_left
      · intro w
        go_simp
        try with_reducible rfl
      refine wpAny_take (i := 4) (v := ?_) rfl (by kernel_rfl) (by kernel_rfl) (by kernel_rfl) (fun _ _ _ h => h) (Or.inl ⟨by rfl, ?_⟩) ?_
      rotate_left
      · intro w
        go_simp
        try with_reducible rfl
      refine wpAny_ready (rs := [3, 5]) (by kernel_rfl) (by simp) ?_
      refine AllReady.cons rfl (fun K hK => ?_) (AllReady.cons rfl (fun K hK => ?_) AllReady.nil)
      · go_simp
        refine hK _ _ ?_
        clear hK K
        refine wpAny_ready (rs := [5]) (by kernel_rfl) (by simp) ?_
        refine AllReady.cons rfl (fun K hK => ?_) AllReady.nil
        go_simp
        refine hK _ _ ?_
        clear hK K
        refine wpAny_ready (rs := [6]) (by kernel_rfl) (by simp) ?_
        refine AllReady.cons rfl (fun K hK => ?_) AllReady.nil
        go_simp
        refine hK _ _ ?_
        clear hK K
        refine wpAny_ready (rs := [7]) (by kernel_rfl) (by simp) ?_
        refine AllReady.cons rfl (fun K hK => ?_) AllReady.nil
        refine step_app1 Tryz.i64Elem _ (by rfl) (.tmp 59) (.tmp 62) (by rfl) w2.heap.size (some ⟨r.g, 0, none⟩) r.c r.l (by rfl) ?own x2 w3.heap.size 1 (by rfl) ?hp ?h3 ?h4 ?sz ?_
        case own => exact own_below HO.out (cur_new _ _).drew (Nat.le_refl _)
        case hp => exact heap_alloc_new w3 _
        case h3 => (unfold maxLen; omega)
        case h4 => omega
        case sz => (first | omega | (simp; omega))
        intro g2 cap w6 ha
        have hsW : (w3.alloc (.cells (inE x2).toArray 2)).drew.heap.size = w3.heap.size + 1 := by simp
        have hbW : Below w3.heap.size w3 (w3.alloc (.cells (inE x2).toArray 2)).drew := (cur_new _ _).drew
        have hg6 : w6.cell? ⟨g, 0, none⟩ = some (.slice (some ⟨r.g, 0, none⟩) r.l.length r.c) := (ha.far (Nat.lt_of_lt_of_le hgl hbW.size) (fun e => hgr (by injection e with e; exact e.symm))).trans (hbW.cell (p := ⟨g, 0, none⟩) hgl |>.trans hgc0)
        have hf6 := ha.froz g 0 (Nat.lt_of_lt_of_le hgl hbW.size) ((hbW.frozen (p := ⟨g, 0, none⟩) hgl).trans HFG.out)
        have HA := Lib.hid ha
        have HBW := Lib.hid hbW
        clear ha hbW hsW
        refine hK _ _ ?_
        clear hK K
        go_simp
        refine wpAny_ready (rs := [8]) (by kernel_rfl) (by simp) ?_
        refine AllReady.cons rfl (fun K hK => ?_) AllReady.nil
        go_simp
        refine hK _ _ ?_
        clear hK K
        refine wpAny_ready (rs := [9]) (by kernel_rfl) (by simp) ?_
        refine AllReady.cons rfl (fun K hK => ?_) AllReady.nil
        go_simp
        refine hK _ _ ?_
        clear hK K
        refine wpAny_done (by kernel_rfl) ?_ _
        obtain ⟨wl, hwl⟩ : ∃ wl : World, wl = w6.setCell ⟨g, 0, none⟩ (.slice (some ⟨g2, 0, none⟩) (r.l.length + 1) cap) := ⟨_, rfl⟩
        obtain ⟨ll, hll⟩ : ∃ ll : List (List Int), ll = (rs.map Rw.l).set 0 (r.l ++ [x2]) := ⟨_, rfl⟩
        have hlen : rs.length = ll.length := by rw [hll, List.length_set, List.length_map]
        have hB6 : Below w.heap.size w w6 := Below.tabEnd HB3.out HBW.out HA.out (fun b e => by injection e with e; have e : r.g = b := e; omega)
        have hlw : w.heap.size < w3.heap.size := HK3.out.lt
        have HBl := Lib.hid (show Below w.heap.size w wl by rw [hwl]; exact below_set hB6 (by omega) 0 _)
        have HKl := Lib.hid (show Blk wl w.heap.size 25 (tkL t A W c wc) by
          have h1 := HK3.out.to HBW.out
          have h2 : Blk w6 w.heap.size 25 (tkL t A W c wc) := by
            unfold Blk at h1 ⊢
            rw [HA.out.grown.block w.heap.size (Nat.lt_of_lt_of_le hlw HBW.out.size) (fun e => by injection e with e; have e : w.heap.size = r.g := e; omega)]
            exact h1
          rw [hwl]
          exact h2.other (by omega) 0 _)
        have HRl := Lib.hid (show Rd2 wl wl.heap.size (some ⟨g, 0, none⟩) ll by
          rw [hwl, hll]
          exact ((HT.out.to HBW.out).appRow HR.out HA.out).more (by simp))
        have HLL := Lib.hid (show ll.length ≤ 1000000 ∧ ∀ x ∈ ll, x.length ≤ 1000000 by
          refine ⟨by omega, fun x hx => ?_⟩
          rw [hll] at hx
          rcases List.mem_or_eq_of_mem_set hx with h | h
          · rw [HRS.out] at h
            have := HLE.out.2 x h
            omega
          · rw [h, List.length_append]; simp; omega)
        rw [← hwl, hlen]
        clear hwl hll hg6 hf6 hlen hB6 hlw hgc0 x0c x1c x2c
        obtain ⟨CS, hCS⟩ : ∃ CS : List (Nat × Nat × Value), CS = [(w.heap.size, 0, .int .i64 t.ov), (w.heap.size, 1, .int .i64 t.ld), (w.heap.size, 2, .int .i64 t.sp), (w.heap.size, 3, .slice A t.d.length c), (w.heap.size, 4, .slice W t.win.length wc)] := ⟨_, rfl⟩
        obtain ⟨t0, t1, t2, t3, t4⟩ := tk_cells HKl.out
        have l3 := HKl.out.lt
        have K3 : Keep wl wl CS := by rw [hCS]; exact Keep.start (Below.refl _ _) (by simp [t0, t1, t2, t3, t4, l3])
        have k0 : ∀ s : Wd wl CS, s.w.cell? ⟨w.heap.size, 0, none⟩ = some (.int .i64 t.ov) := fun s => s.h.get (by simp [hCS])
        have k1 : ∀ s : Wd wl CS, s.w.cell? ⟨w.heap.size, 1, none⟩ = some (.int .i64 t.ld) := fun s => s.h.get (by simp [hCS])
        have k2 : ∀ s : Wd wl CS, s.w.cell? ⟨w.heap.size, 2, none⟩ = some (.int .i64 t.sp) := fun s => s.h.get (by simp [hCS])
        have k3 : ∀ s : Wd wl CS, s.w.cell? ⟨w.heap.size, 3, none⟩ = some (.slice A t.d.length c) := fun s => s.h.get (by simp [hCS])
        have k4 : ∀ s : Wd wl CS, s.w.cell? ⟨w.heap.size, 4, none⟩ = some (.slice W t.win.length wc) := fun s => s.h.get (by simp [hCS])
        have hex : ∀ s : Wd wl CS, ∃ s' : Wd wl CS, s.w = s'.w := fun s => ⟨s, rfl⟩
        haveI hne : Nonempty (Wd wl CS) := ⟨⟨_, K3⟩⟩
        have HCS := Lib.hid hCS
        obtain ⟨v1, hv1⟩ : ∃ v1, accT t ll = v1 := ⟨_, rfl⟩
        obtain ⟨v2, hv2⟩ : ∃ v2, accT t [] = v2 := ⟨_, rfl⟩
        have HV1 := Lib.hid hv1
        have HV2 := Lib.hid hv2
        clear hCS t0 t1 t2 t3 t4 hv1 hv2
        go_wp2_with fail
        refine wp_region_wd wl CS (by kernel_rfl) (by kernel_rfl) K3.drew ?_
        repeat (go_big_quiet_step ((first
          | (go_at_call 22; (first | (guard_target = Calls _ _ #[_, .slice none 0 0] _ _; refine (Accept_p t [] A W none c wc 0 v2 _ hsm (HD.out.to (cur_step1 HBl.out (Wd.h _).1)) (HW.out.to (cur_step1 HBl.out (Wd.h _).1)) (rd2_nil _ _ _) (by simp) (by simp) HV2.out).mono ?_) | refine (Accept_p t ll A W (some ⟨g, 0, none⟩) c wc lc v1 _ hsm (HD.out.to (cur_step1 HBl.out (Wd.h _).1)) (HW.out.to (cur_step1 HBl.out (Wd.h _).1)) (HRl.out.to (Wd.h _).1) HLL.out.1 HLL.out.2 HV1.out).mono ?_); rintro e w9 ⟨rfl, hb9⟩; exact ⟨rfl, ⟨w9, (Wd.h _).to hb9⟩, rfl⟩)
          | (go_at_call 23; (first | (guard_target = Calls _ _ #[_, .slice none 0 0] _ _; refine (Accept_r t [] A W none c wc 0 v2 _ hsm (HD.out.to (cur_step1 HBl.out (Wd.h _).1)) (HW.out.to (cur_step1 HBl.out (Wd.h _).1)) (rd2_nil _ _ _) (by simp) (by simp) HV2.out).mono ?_) | refine (Accept_r t ll A W (some ⟨g, 0, none⟩) c wc lc v1 _ hsm (HD.out.to (cur_step1 HBl.out (Wd.h _).1)) (HW.out.to (cur_step1 HBl.out (Wd.h _).1)) (HRl.out.to (Wd.h _).1) HLL.out.1 HLL.out.2 HV1.out).mono ?_); rintro e w9 ⟨rfl, hb9⟩; exact ⟨rfl, ⟨w9, (Wd.h _).to hb9⟩, rfl⟩))))
        refine wpQuiet_nil ?_
        rintro w9 ⟨s9, hs9⟩
        have HB9 : Below w.heap.size w w9 := by rw [hs9]; exact cur_step1 HBl.out s9.h.1
        clear hs9 s9 k0 k1 k2 k3 k4 hex hne K3 HCS
        (try simp only [])
        go_wp2
        go_ret
        exact ⟨ret_bool (by simp), HB9⟩
      · go_simp
        refine hK _ _ ?_
        clear hK K
        refine wpAny_ready (rs := [3, 6]) (by kernel_rfl) (by simp) ?_
        refine AllReady.cons rfl (fun K hK => ?_) (AllReady.cons rfl (fun K hK => ?_) AllReady.nil)
        · go_simp
          refine hK _ _ ?_
          clear hK K
          refine wpAny_ready (rs := [6]) (by kernel_rfl) (by simp) ?_
          refine AllReady.cons rfl (fun K hK => ?_) AllReady.nil
          go_simp
          refine hK _ _ ?_
          clear hK K
          refine wpAny_ready (rs := [7]) (by kernel_rfl) (by simp) ?_
          refine AllReady.cons rfl (fun K hK => ?_) AllReady.nil
          refine step_app1 Tryz.i64Elem _ (by rfl) (.tmp 59) (.tmp 62) (by rfl) w2.heap.size (some ⟨r.g, 0, none⟩) r.c r.l (by rfl) ?own x2 w3.heap.size 1 (by rfl) ?hp ?h3 ?h4 ?sz ?_
          case own => exact own_below HO.out (cur_new _ _).drew (Nat.le_refl _)
          case hp => exact heap_alloc_new w3 _
          case h3 => (unfold maxLen; omega)
          case h4 => omega
          case sz => (first | omega | (simp; omega))
          intro g2 cap w6 ha
          have hsW : (w3.alloc (.cells (inE x2).toArray 2)).drew.heap.size = w3.heap.size + 1 := by simp
          have hbW : Below w3.heap.size w3 (w3.alloc (.cells (inE x2).toArray 2)).drew := (cur_new _ _).drew
          have hg6 : w6.cell? ⟨g, 0, none⟩ = some (.slice (some ⟨r.g, 0, none⟩) r.l.length r.c) := (ha.far (Nat.lt_of_lt_of_le hgl hbW.size) (fun e => hgr (by injection e with e; exact e.symm))).trans (hbW.cell (p := ⟨g, 0, none⟩) hgl |>.trans hgc0)
          have hf6 := ha.froz g 0 (Nat.lt_of_lt_of_le hgl hbW.size) ((hbW.frozen (p := ⟨g, 0, none⟩) hgl).trans HFG.out)
          have HA := Lib.hid ha
          have HBW := Lib.hid hbW
          clear ha hbW hsW
          refine hK _ _ ?_
          clear hK K
          go_simp
          refine wpAny_ready (rs := [8]) (by kernel_rfl) (by simp) ?_
          refine AllReady.cons rfl (fun K hK => ?_) AllReady.nil
          go_simp
          refine hK _ _ ?_
          clear hK K
          refine wpAny_ready (rs := [9]) (by kernel_rfl) (by simp) ?_
          refine AllReady.cons rfl (fun K hK => ?_) AllReady.nil
          go_simp
          refine hK _ _ ?_
          clear hK K
          refine wpAny_done (by kernel_rfl) ?_ _
          obtain ⟨wl, hwl⟩ : ∃ wl : World, wl = w6.setCell ⟨g, 0, none⟩ (.slice (some ⟨g2, 0, none⟩) (r.l.length + 1) cap) := ⟨_, rfl⟩
          obtain ⟨ll, hll⟩ : ∃ ll : List (List Int), ll = (rs.map Rw.l).set 0 (r.l ++ [x2]) := ⟨_, rfl⟩
          have hlen : rs.length = ll.length := by rw [hll, List.length_set, List.length_map]
          have hB6 : Below w.heap.size w w6 := Below.tabEnd HB3.out HBW.out HA.out (fun b e => by injection e with e; have e : r.g = b := e; omega)
          have hlw : w.heap.size < w3.heap.size := HK3.out.lt
          have HBl := Lib.hid (show Below w.heap.size w wl by rw [hwl]; exact below_set hB6 (by omega) 0 _)
          have HKl := Lib.hid (show Blk wl w.heap.size 25 (tkL t A W c wc) by
            have h1 := HK3.out.to HBW.out
            have h2 : Blk w6 w.heap.size 25 (tkL t A W c wc) := by
              unfold Blk at h1 ⊢
              rw [HA.out.grown.block w.heap.size (Nat.lt_of_lt_of_le hlw HBW.out.size) (fun e => by injection e with e; have e : w.heap.size = r.g := e; omega)]
              exact h1
            rw [hwl]
            exact h2.other (by omega) 0 _)
          have HRl := Lib.hid (show Rd2 wl wl.heap.size (some ⟨g, 0, none⟩) ll by
            rw [hwl, hll]
            exact ((HT.out.to HBW.out).appRow HR.out HA.out).more (by simp))
          have HLL := Lib.hid (show ll.length ≤ 1000000 ∧ ∀ x ∈ ll, x.length ≤ 1000000 by
            refine ⟨by omega, fun x hx => ?_⟩
            rw [hll] at hx
            rcases List.mem_or_eq_of_mem_set hx with h | h
            · rw [HRS.out] at h
              have := HLE.out.2 x h
              omega
            · rw [h, List.length_append]; simp; omega)
          rw [← hwl, hlen]
          clear hwl hll hg6 hf6 hlen hB6 hlw hgc0 x0c x1c x2c
          obtain ⟨CS, hCS⟩ : ∃ CS : List (Nat × Nat × Value), CS = [(w.heap.size, 0, .int .i64 t.ov), (w.heap.size, 1, .int .i64 t.ld), (w.heap.size, 2, .int .i64 t.sp), (w.heap.size, 3, .slice A t.d.length c), (w.heap.size, 4, .slice W t.win.length wc)] := ⟨_, rfl⟩
          obtain ⟨t0, t1, t2, t3, t4⟩ := tk_cells HKl.out
          have l3 := HKl.out.lt
          have K3 : Keep wl wl CS := by rw [hCS]; exact Keep.start (Below.refl _ _) (by simp [t0, t1, t2, t3, t4, l3])
          have k0 : ∀ s : Wd wl CS, s.w.cell? ⟨w.heap.size, 0, none⟩ = some (.int .i64 t.ov) := fun s => s.h.get (by simp [hCS])
          have k1 : ∀ s : Wd wl CS, s.w.cell? ⟨w.heap.size, 1, none⟩ = some (.int .i64 t.ld) := fun s => s.h.get (by simp [hCS])
          have k2 : ∀ s : Wd wl CS, s.w.cell? ⟨w.heap.size, 2, none⟩ = some (.int .i64 t.sp) := fun s => s.h.get (by simp [hCS])
          have k3 : ∀ s : Wd wl CS, s.w.cell? ⟨w.heap.size, 3, none⟩ = some (.slice A t.d.length c) := fun s => s.h.get (by simp [hCS])
          have k4 : ∀ s : Wd wl CS, s.w.cell? ⟨w.heap.size, 4, none⟩ = some (.slice W t.win.length wc) := fun s => s.h.get (by simp [hCS])
          have hex : ∀ s : Wd wl CS, ∃ s' : Wd wl CS, s.w = s'.w := fun s => ⟨s, rfl⟩
          haveI hne : Nonempty (Wd wl CS) := ⟨⟨_, K3⟩⟩
          have HCS := Lib.hid hCS
          obtain ⟨v1, hv1⟩ : ∃ v1, accT t ll = v1 := ⟨_, rfl⟩
          obtain ⟨v2, hv2⟩ : ∃ v2, accT t [] = v2 := ⟨_, rfl⟩
          have HV1 := Lib.hid hv1
          have HV2 := Lib.hid hv2
          clear hCS t0 t1 t2 t3 t4 hv1 hv2
          go_wp2_with fail
          refine wp_region_wd wl CS (by kernel_rfl) (by kernel_rfl) K3.drew ?_
          repeat (go_big_quiet_step ((first
            | (go_at_call 22; (first | (guard_target = Calls _ _ #[_, .slice none 0 0] _ _; refine (Accept_p t [] A W none c wc 0 v2 _ hsm (HD.out.to (cur_step1 HBl.out (Wd.h _).1)) (HW.out.to (cur_step1 HBl.out (Wd.h _).1)) (rd2_nil _ _ _) (by simp) (by simp) HV2.out).mono ?_) | refine (Accept_p t ll A W (some ⟨g, 0, none⟩) c wc lc v1 _ hsm (HD.out.to (cur_step1 HBl.out (Wd.h _).1)) (HW.out.to (cur_step1 HBl.out (Wd.h _).1)) (HRl.out.to (Wd.h _).1) HLL.out.1 HLL.out.2 HV1.out).mono ?_); rintro e w9 ⟨rfl, hb9⟩; exact ⟨rfl, ⟨w9, (Wd.h _).to hb9⟩, rfl⟩)
            | (go_at_call 23; (first | (guard_target = Calls _ _ #[_, .slice none 0 0] _ _; refine (Accept_r t [] A W none c wc 0 v2 _ hsm (HD.out.to (cur_step1 HBl.out (Wd.h _).1)) (HW.out.to (cur_step1 HBl.out (Wd.h _).1)) (rd2_nil _ _ _) (by simp) (by simp) HV2.out).mono ?_) | refine (Accept_r t ll A W (some ⟨g, 0, none⟩) c wc lc v1 _ hsm (HD.out.to (cur_step1 HBl.out (Wd.h _).1)) (HW.out.to (cur_step1 HBl.out (Wd.h _).1)) (HRl.out.to (Wd.h _).1) HLL.out.1 HLL.out.2 HV1.out).mono ?_); rintro e w9 ⟨rfl, hb9⟩; exact ⟨rfl, ⟨w9, (Wd.h _).to hb9⟩, rfl⟩))))
          refine wpQuiet_nil ?_
          rintro w9 ⟨s9, hs9⟩
          have HB9 : Below w.heap.size w w9 := by rw [hs9]; exact cur_step1 HBl.out s9.h.1
          clear hs9 s9 k0 k1 k2 k3 k4 hex hne K3 HCS
          (try simp only [])
          go_wp2
          go_ret
          exact ⟨ret_bool (by simp), HB9⟩

        · go_simp
          refine hK _ _ ?_
          clear hK K
          refine wpAny_ready (rs := [3]) (by kernel_rfl) (by simp) ?_
          refine AllReady.cons rfl (fun K hK => ?_) AllReady.nil
          go_simp
          refine hK _ _ ?_
          clear hK K
          refine wpAny_ready (rs := [7]) (by kernel_rfl) (by simp) ?_
          refine AllReady.cons rfl (fun K hK => ?_) AllReady.nil
          refine step_app1 Tryz.i64Elem _ (by rfl) (.tmp 59) (.tmp 62) (by rfl) w2.heap.size (some ⟨r.g, 0, none⟩) r.c r.l (by rfl) ?own x2 w3.heap.size 1 (by rfl) ?hp ?h3 ?h4 ?sz ?_
          case own => exact own_below HO.out (cur_new _ _).drew (Nat.le_refl _)
          case hp => exact heap_alloc_new w3 _
          case h3 => (unfold maxLen; omega)
          case h4 => omega
          case sz => (first | omega | (simp; omega))
          intro g2 cap w6 ha
          have hsW : (w3.alloc (.cells (inE x2).toArray 2)).drew.heap.size = w3.heap.size + 1 := by simp
          have hbW : Below w3.heap.size w3 (w3.alloc (.cells (inE x2).toArray 2)).drew := (cur_new _ _).drew
          have hg6 : w6.cell? ⟨g, 0, none⟩ = some (.slice (some ⟨r.g, 0, none⟩) r.l.length r.c) := (ha.far (Nat.lt_of_lt_of_le hgl hbW.size) (fun e => hgr (by injection e with e; exact e.symm))).trans (hbW.cell (p := ⟨g, 0, none⟩) hgl |>.trans hgc0)
          have hf6 := ha.froz g 0 (Nat.lt_of_lt_of_le hgl hbW.size) ((hbW.frozen (p := ⟨g, 0, none⟩) hgl).trans HFG.out)
          have HA := Lib.hid ha
          have HBW := Lib.hid hbW
          clear ha hbW hsW
          refine hK _ _ ?_
          clear hK K
          go_simp
          refine wpAny_ready (rs := [8]) (by kernel_rfl) (by simp) ?_
          refine AllReady.cons rfl (fun K hK => ?_) AllReady.nil
          go_simp
          refine hK _ _ ?_
          clear hK K
          refine wpAny_ready (rs := [9]) (by kernel_rfl) (by simp) ?_
          refine AllReady.cons rfl (fun K hK => ?_) AllReady.nil
          go_simp
          refine hK _ _ ?_
          clear hK K
          refine wpAny_done (by kernel_rfl) ?_ _
          obtain ⟨wl, hwl⟩ : ∃ wl : World, wl = w6.setCell ⟨g, 0, none⟩ (.slice (some ⟨g2, 0, none⟩) (r.l.length + 1) cap) := ⟨_, rfl⟩
          obtain ⟨ll, hll⟩ : ∃ ll : List (List Int), ll = (rs.map Rw.l).set 0 (r.l ++ [x2]) := ⟨_, rfl⟩
          have hlen : rs.length = ll.length := by rw [hll, List.length_set, List.length_map]
          have hB6 : Below w.heap.size w w6 := Below.tabEnd HB3.out HBW.out HA.out (fun b e => by injection e with e; have e : r.g = b := e; omega)
          have hlw : w.heap.size < w3.heap.size := HK3.out.lt
          have HBl := Lib.hid (show Below w.heap.size w wl by rw [hwl]; exact below_set hB6 (by omega) 0 _)
          have HKl := Lib.hid (show Blk wl w.heap.size 25 (tkL t A W c wc) by
            have h1 := HK3.out.to HBW.out
            have h2 : Blk w6 w.heap.size 25 (tkL t A W c wc) := by
              unfold Blk at h1 ⊢
              rw [HA.out.grown.block w.heap.size (Nat.lt_of_lt_of_le hlw HBW.out.size) (fun e => by injection e with e; have e : w.heap.size = r.g := e; omega)]
              exact h1
            rw [hwl]
            exact h2.other (by omega) 0 _)
          have HRl := Lib.hid (show Rd2 wl wl.heap.size (some ⟨g, 0, none⟩) ll by
            rw [hwl, hll]
            exact ((HT.out.to HBW.out).appRow HR.out HA.out).more (by simp))
          have HLL := Lib.hid (show ll.length ≤ 1000000 ∧ ∀ x ∈ ll, x.length ≤ 1000000 by
            refine ⟨by omega, fun x hx => ?_⟩
            rw [hll] at hx
            rcases List.mem_or_eq_of_mem_set hx with h | h
            · rw [HRS.out] at h
              have := HLE.out.2 x h
              omega
            · rw [h, List.length_append]; simp; omega)
          rw [← hwl, hlen]
          clear hwl hll hg6 hf6 hlen hB6 hlw hgc0 x0c x1c x2c
          obtain ⟨CS, hCS⟩ : ∃ CS : List (Nat × Nat × Value), CS = [(w.heap.size, 0, .int .i64 t.ov), (w.heap.size, 1, .int .i64 t.ld), (w.heap.size, 2, .int .i64 t.sp), (w.heap.size, 3, .slice A t.d.length c), (w.heap.size, 4, .slice W t.win.length wc)] := ⟨_, rfl⟩
          obtain ⟨t0, t1, t2, t3, t4⟩ := tk_cells HKl.out
          have l3 := HKl.out.lt
          have K3 : Keep wl wl CS := by rw [hCS]; exact Keep.start (Below.refl _ _) (by simp [t0, t1, t2, t3, t4, l3])
          have k0 : ∀ s : Wd wl CS, s.w.cell? ⟨w.heap.size, 0, none⟩ = some (.int .i64 t.ov) := fun s => s.h.get (by simp [hCS])
          have k1 : ∀ s : Wd wl CS, s.w.cell? ⟨w.heap.size, 1, none⟩ = some (.int .i64 t.ld) := fun s => s.h.get (by simp [hCS])
          have k2 : ∀ s : Wd wl CS, s.w.cell? ⟨w.heap.size, 2, none⟩ = some (.int .i64 t.sp) := fun s => s.h.get (by simp [hCS])
          have k3 : ∀ s : Wd wl CS, s.w.cell? ⟨w.heap.size, 3, none⟩ = some (.slice A t.d.length c) := fun s => s.h.get (by simp [hCS])
          have k4 : ∀ s : Wd wl CS, s.w.cell? ⟨w.heap.size, 4, none⟩ = some (.slice W t.win.length wc) := fun s => s.h.get (by simp [hCS])
          have hex : ∀ s : Wd wl CS, ∃ s' : Wd wl CS, s.w = s'.w := fun s => ⟨s, rfl⟩
          haveI hne : Nonempty (Wd wl CS) := ⟨⟨_, K3⟩⟩
          have HCS := Lib.hid hCS
          obtain ⟨v1, hv1⟩ : ∃ v1, accT t ll = v1 := ⟨_, rfl⟩
          obtain ⟨v2, hv2⟩ : ∃ v2, accT t [] = v2 := ⟨_, rfl⟩
          have HV1 := Lib.hid hv1
          have HV2 := Lib.hid hv2
          clear hCS t0 t1 t2 t3 t4 hv1 hv2
          go_wp2_with fail
          refine wp_region_wd wl CS (by kernel_rfl) (by kernel_rfl) K3.drew ?_
          repeat (go_big_quiet_step ((first
            | (go_at_call 22; (first | (guard_target = Calls _ _ #[_, .slice none 0 0] _ _; refine (Accept_p t [] A W none c wc 0 v2 _ hsm (HD.out.to (cur_step1 HBl.out (Wd.h _).1)) (HW.out.to (cur_step1 HBl.out (Wd.h _).1)) (rd2_nil _ _ _) (by simp) (by simp) HV2.out).mono ?_) | refine (Accept_p t ll A W (some ⟨g, 0, none⟩) c wc lc v1 _ hsm (HD.out.to (cur_step1 HBl.out (Wd.h _).1)) (HW.out.to (cur_step1 HBl.out (Wd.h _).1)) (HRl.out.to (Wd.h _).1) HLL.out.1 HLL.out.2 HV1.out).mono ?_); rintro e w9 ⟨rfl, hb9⟩; exact ⟨rfl, ⟨w9, (Wd.h _).to hb9⟩, rfl⟩)
            | (go_at_call 23; (first | (guard_target = Calls _ _ #[_, .slice none 0 0] _ _; refine (Accept_r t [] A W none c wc 0 v2 _ hsm (HD.out.to (cur_step1 HBl.out (Wd.h _).1)) (HW.out.to (cur_step1 HBl.out (Wd.h _).1)) (rd2_nil _ _ _) (by simp) (by simp) HV2.out).mono ?_) | refine (Accept_r t ll A W (some ⟨g, 0, none⟩) c wc lc v1 _ hsm (HD.out.to (cur_step1 HBl.out (Wd.h _).1)) (HW.out.to (cur_step1 HBl.out (Wd.h _).1)) (HRl.out.to (Wd.h _).1) HLL.out.1 HLL.out.2 HV1.out).mono ?_); rintro e w9 ⟨rfl, hb9⟩; exact ⟨rfl, ⟨w9, (Wd.h _).to hb9⟩, rfl⟩))))
          refine wpQuiet_nil ?_
          rintro w9 ⟨s9, hs9⟩
          have HB9 : Below w.heap.size w w9 := by rw [hs9]; exact cur_step1 HBl.out s9.h.1
          clear hs9 s9 k0 k1 k2 k3 k4 hex hne K3 HCS
          (try simp only [])
          go_wp2
          go_ret
          exact ⟨ret_bool (by simp), HB9⟩

end Go.Proofs.YtkmkdknjpnkkpaaGreatDoor
