/-
  Chapter 47: Accept of the reference.
-/
import Derived.Test.YtkmkdknjpnkkpaaGreatDoorTabR47
import Derived.Test.YtkmkdknjpnkkpaaGreatDoorAcc47
set_option linter.unusedSimpArgs false
set_option linter.unusedVariables false
namespace Go.Proofs.YtkmkdknjpnkkpaaGreatDoor
open Go.RowKit
set_option maxRecDepth 100000
set_option maxHeartbeats 4000000
theorem accT_len0 {t : Tk} {l : List (List Int)} (h : ckT t = 0) (hov : 0 ≤ t.ov) (hl : (l.length : Int) ≠ t.ov + 1) : accT t l = 4 := by
  unfold accT
  rw [if_neg (by simpa using h), if_pos]
  intro e
  have := congrArg List.length e
  simp [tabT_len] at this
  omega
theorem accT_len1 {t : Tk} {l : List (List Int)} {k : Nat} {x : List Int} (h : ckT t = 0) (hk : k ≤ t.ov.toNat) (hx : l[k]? = some x) (hne : x.length ≠ (rowT t k).length) : accT t l = 4 := by
  unfold accT
  rw [if_neg (by simpa using h), if_pos]
  intro e
  have := congrArg (·[k]?) e
  simp only [List.getElem?_map, hx, tabT_at hk, Option.map_some] at this
  injection this with this
  exact hne this
theorem shape_all {t : Tk} {l : List (List Int)} (hl : l.length = t.ov.toNat + 1) (h : ∀ (j : Nat) x, l[j]? = some x → x.length = (rowT t j).length) : l.map List.length = (tabT t).map List.length := by
  apply List.ext_getElem?
  intro j
  rw [List.getElem?_map, List.getElem?_map]
  by_cases hj : j ≤ t.ov.toNat
  · obtain ⟨x, hx⟩ : ∃ x, l[j]? = some x := ⟨_, List.getElem?_eq_getElem (by omega)⟩
    rw [hx, tabT_at hj, Option.map_some, Option.map_some, h j x hx]
  · rw [List.getElem?_eq_none (by omega), List.getElem?_eq_none (by rw [tabT_len]; omega)]
theorem accT_el {t : Tk} {l : List (List Int)} {k i : Nat} {x : List Int} {u z : Int} (h : ckT t = 0) (hs : l.map List.length = (tabT t).map List.length) (hk : k ≤ t.ov.toNat) (hx : l[k]? = some x) (hu : x[i]? = some u) (hz : (rowT t k)[i]? = some z) (hne : u ≠ z) : accT t l = 12 := by
  unfold accT
  rw [if_neg (by simpa using h), if_neg (by simpa using hs), if_pos]
  rintro rfl
  rw [tabT_at hk] at hx
  injection hx with hx
  subst hx
  rw [hu] at hz
  injection hz with hz
  exact hne hz
theorem accT_ok {t : Tk} {l : List (List Int)} (h : ckT t = 0) (hl : l.length = t.ov.toNat + 1) (he : ∀ j : Nat, j < l.length → l[j]? = (tabT t)[j]?) : accT t l = 0 := by
  have : l = tabT t := by
    apply List.ext_getElem?
    intro j
    by_cases hj : j < l.length
    · exact he j hj
    · rw [List.getElem?_eq_none (by omega), List.getElem?_eq_none (by rw [tabT_len]; omega)]
  rw [this]
  unfold accT
  simp [h]
def L1R (t : Tk) (l : List (List Int)) (A W : Option Addr) (c wc : Nat) (w : World) (i : Value) (wr : World) : Prop := ∃ k : Nat, k ≤ l.length ∧ i = .int .i64 k ∧ (∀ (j : Nat) x, j < k → l[j]? = some x → x.length = (rowT t j).length) ∧ Blk wr w.heap.size 25 (tkL t A W c wc) ∧ Below w.heap.size w wr
def L2R (t : Tk) (l : List (List Int)) (A W : Option Addr) (c wc : Nat) (w : World) (i : Value) (wr : World) : Prop := ∃ k : Nat, k ≤ l.length ∧ i = .int .i64 k ∧ (∀ j : Nat, j < k → l[j]? = (tabT t)[j]?) ∧ Blk wr w.heap.size 25 (tkL t A W c wc) ∧ Below w.heap.size w wr
def L3R (t : Tk) (m : Nat) (x : List Int) (w : World) (i : Value) (wr : World) : Prop := ∃ k : Nat, k ≤ x.length ∧ i = .int .i64 k ∧ (∀ j : Nat, j < k → x[j]? = (rowT t m)[j]?) ∧ Below w.heap.size w wr
theorem valT_pos {t : Tk} {m : Nat} {lead : Int} (h : 0 < m) : valT t m lead = max (nowT t lead m) (onS (fun r => valT t (m - 1) (lead + r)) t.d) := by
  cases m with
  | zero => omega
  | succ m => rfl
theorem rowT_at {t : Tk} {m i : Nat} (h : i < (rowT t m).length) : (rowT t m)[i]? = some (valT t m (t.ld + (i : Int))) := by
  rw [rowT_len] at h
  exact lstT_at h
theorem rowT_prev {t : Tk} {m : Nat} (h : 0 < m) (hm : m ≤ t.ov.toNat) : (rowT t (m - 1)).length = (rowT t m).length + mostN t := by
  rw [rowT_len, rowT_len, show t.ov.toNat - (m - 1) = (t.ov.toNat - m) + 1 by omega, Nat.mul_add]
  omega
theorem l3_next {t : Tk} {m i : Nat} {x : List Int} {u : Int} (hq : ∀ j : Nat, j < i → x[j]? = (rowT t m)[j]?) (hu : x[i]? = some u) (hr : (rowT t m)[i]? = some u) : ∀ j : Nat, j < i + 1 → x[j]? = (rowT t m)[j]? := by
  intro j hj
  rcases Nat.lt_or_ge j i with h | h
  · exact hq j h
  · obtain rfl : j = i := by omega
    rw [hu, hr]
def L4R (t : Tk) (f : Int → Int) (w : World) (s i : Value) (wr : World) : Prop := ∃ k : Nat, k ≤ t.d.length ∧ i = .int .i64 k ∧ s = .int .i64 (onS f (t.d.take k)) ∧ Below w.heap.size w wr
theorem Accept_r (t : Tk) (l : List (List Int)) (A W L : Option Addr) (c wc lc : Nat) (v : Int) (w : World) (hs : Sm t) (hd : Rd ocE 3 w w.heap.size A t.d) (hw : Rd2 w w.heap.size W t.win) (hL : Rd2 w w.heap.size L l) (hm : l.length ≤ 1000000) (hrm : ∀ x ∈ l, x.length ≤ 1000000) (hv : accT t l = v) :
    Calls Tryz.prog 23 #[tkV t A W c wc, .slice L l.length lc] w fun e w' => e = .returned (.int .i64 v) ∧ Below w.heap.size w w' := by
  obtain ⟨e0, he0⟩ : ∃ e0, ckT t = e0 := ⟨_, rfl⟩
  have HV := Lib.hid hv
  have HD := Lib.hid hd
  have HW := Lib.hid hw
  have HL := Lib.hid hL
  have HRM := Lib.hid hrm
  have hbk := Blk.new w 25 (tkL t A W c wc)
  have hb0 := cur_new w (.cells (tkL t A W c wc).toArray 25)
  unfold tkL at hbk hb0
  clear hd hw hL hrm hv
  by_cases h0 : e0 ≠ 0
  · have e1 : (e0 != 0) = true := by simpa using h0
    have HV2 := Lib.hid (show e0 = v by rw [← HV.out]; unfold accT; rw [he0, if_pos h0])
    clear h0
    go_enter Tryz.func23, Tryz.ntmps23
    go_wp2_with fail
    refine (ckt_r t A W c wc e0 _ hs (HD.out.to hb0) (HW.out.to hb0) he0).mono ?_
    rintro e w1 ⟨rfl, hb1⟩
    have HB := Lib.hid (cur_step1 hb0 hb1)
    clear hb1
    go_wp2_with fail
    go_ret
    exact ⟨ret_int HV2.out, HB.out⟩
  have h0' : e0 = 0 := by simpa using h0
  subst h0'
  clear h0
  have hok := okT_of he0
  obtain ⟨hov0, hov1⟩ := hok.ov
  obtain ⟨hld0, hld1⟩ := hok.ld
  have HOK := Lib.hid hok
  have HX := Lib.hid he0
  clear hok he0
  by_cases hlen : (l.length : Int) ≠ t.ov + 1
  · have e1 : ((l.length : Int) != t.ov + 1) = true := by simpa using hlen
    have HV2 := Lib.hid (show 4 = v by rw [← HV.out, accT_len0 HX.out hov0 hlen])
    clear hlen
    go_enter Tryz.func23, Tryz.ntmps23
    go_wp2_with fail
    refine (ckt_r t A W c wc 0 _ hs (HD.out.to hb0) (HW.out.to hb0) HX.out).mono ?_
    rintro e w1 ⟨rfl, hb1⟩
    have HB := Lib.hid (cur_step1 hb0 hb1)
    obtain ⟨t0, t1, t2, t3, t4⟩ := tk_cells (hbk.to hb1)
    clear hb1
    go_wp2_with fail
    go_ret
    exact ⟨ret_int HV2.out, HB.out⟩
  have e1 : ((l.length : Int) != t.ov + 1) = false := by simpa using hlen
  have HLN := Lib.hid (show l.length = t.ov.toNat + 1 by omega)
  clear hlen
  go_enter Tryz.func23, Tryz.ntmps23
  go_wp2_with fail
  refine (ckt_r t A W c wc 0 _ hs (HD.out.to hb0) (HW.out.to hb0) HX.out).mono ?_
  rintro e w1 ⟨rfl, hb1⟩
  have HB := Lib.hid (cur_step1 hb0 hb1)
  have HK := Lib.hid (hbk.to hb1)
  obtain ⟨t0, t1, t2, t3, t4⟩ := tk_cells (hbk.to hb1)
  clear hb1 hbk hb0
  go_wp2_with fail
  clear t0 t1 t2 t3 t4
  go_loopw [29] (L1R t l A W c wc w) (fun i _ => l.length - (intOf i).toNat)
  case atStart => exact ⟨0, by omega, rfl, fun j x hj => by omega, HK.out, HB.out⟩
  case round =>
    obtain ⟨k, hk, rfl, hq, hk2, hb⟩ := hrel
    clear HB HK
    have HQ := Lib.hid hq
    have HB := Lib.hid hb
    have HK := Lib.hid hk2
    clear hq hk2 hb
    by_cases hlt : k < l.length
    · obtain ⟨x, hx⟩ : ∃ x, l[k]? = some x := ⟨_, List.getElem?_eq_getElem hlt⟩
      have hxm := HRM.out x (List.mem_of_getElem? hx)
      obtain ⟨lb, loff, rfl, hlb, A1, c1, hc1, hr1⟩ := HL.out.at_ HB.out hx
      have HXX := Lib.hid hx
      obtain ⟨t0, t1, t2, t3, t4⟩ := tk_cells HK.out
      have l3 := HK.out.lt
      obtain ⟨z, hz, hzr, hR7, hRm⟩ := most_at HOK.out
      have hkk : k ≤ t.ov.toNat := by have := HLN.out; omega
      have hP1 : (mostN t : Int) * (t.ov - (k : Int)) = ((mostN t * (t.ov.toNat - k) : Nat) : Int) := by
        rw [Int.natCast_mul]; congr 1; omega
      have hP3 : mostN t * (t.ov.toNat - k) ≤ 77 := Nat.mul_le_mul hR7 (show t.ov.toNat - k ≤ 11 by omega)
      have hs1 : IntKind.i64.wrap (t.ov - (k : Int)) = t.ov - (k : Int) := by rw [IntKind.wrap_i64]; omega
      have hs2 : IntKind.i64.wrap ((mostN t : Int) * (t.ov - (k : Int))) = (mostN t : Int) * (t.ov - (k : Int)) := by rw [IntKind.wrap_i64]; omega
      have hs3 : IntKind.i64.wrap ((mostN t : Int) * (t.ov - (k : Int)) + 1) = (mostN t : Int) * (t.ov - (k : Int)) + 1 := by rw [IntKind.wrap_i64]; omega
      have hRN := rowT_len t k
      have HP := Lib.hid (And.intro hP1 (And.intro hP3 hRN))
      clear hr1 hx hz hzr hRm hP1 hP3 hRN
      obtain ⟨CS, hCS⟩ : ∃ CS : List (Nat × Nat × Value), CS = [(w.heap.size, 0, .int .i64 t.ov), (w.heap.size, 1, .int .i64 t.ld), (w.heap.size, 2, .int .i64 t.sp), (w.heap.size, 3, .slice A t.d.length c), (w.heap.size, 4, .slice W t.win.length wc)] := ⟨_, rfl⟩
      have K3 : Keep wr wr CS := by rw [hCS]; exact Keep.start (Below.refl _ _) (by simp [t0, t1, t2, t3, t4, l3])
      have k0 : ∀ s : Wd wr CS, s.w.cell? ⟨w.heap.size, 0, none⟩ = some (.int .i64 t.ov) := fun s => s.h.get (by simp [hCS])
      have k1 : ∀ s : Wd wr CS, s.w.cell? ⟨w.heap.size, 1, none⟩ = some (.int .i64 t.ld) := fun s => s.h.get (by simp [hCS])
      have k2 : ∀ s : Wd wr CS, s.w.cell? ⟨w.heap.size, 2, none⟩ = some (.int .i64 t.sp) := fun s => s.h.get (by simp [hCS])
      have k3 : ∀ s : Wd wr CS, s.w.cell? ⟨w.heap.size, 3, none⟩ = some (.slice A t.d.length c) := fun s => s.h.get (by simp [hCS])
      have k4 : ∀ s : Wd wr CS, s.w.cell? ⟨w.heap.size, 4, none⟩ = some (.slice W t.win.length wc) := fun s => s.h.get (by simp [hCS])
      have hex : ∀ s : Wd wr CS, ∃ s' : Wd wr CS, s.w = s'.w := fun s => ⟨s, rfl⟩
      haveI hne : Nonempty (Wd wr CS) := ⟨⟨_, K3⟩⟩
      have HCS := Lib.hid hCS
      clear hCS t0 t1 t2 t3 t4
      by_cases hxl : x.length = mostN t * (t.ov.toNat - k) + 1
      · have hcmp : ((x.length : Int) != (mostN t : Int) * (t.ov - (k : Int)) + 1) = false := by have := HP.out.1; simp; omega
        have HN := Lib.hid (show ∀ (j : Nat) x, j < k + 1 → l[j]? = some x → x.length = (rowT t j).length from fun j x' hj hx' => by
          rcases Nat.lt_or_ge j k with h | h
          · exact HQ.out j x' h hx'
          · obtain rfl : j = k := by omega
            rw [HXX.out] at hx'
            injection hx' with hx'
            subst hx'
            rw [HP.out.2.2, hxl])
        clear hxl
        go_wp2_with fail
        refine wp_region_wd wr CS (by kernel_rfl) (by kernel_rfl) K3.drew ?_
        repeat (go_big_quiet_step ((go_at_call 35; refine (most_r t HOK.out A W c wc _ (HD.out.to (cur_step1 HB.out (Wd.h _).1))).mono ?_; rintro e w9 ⟨rfl, hb9⟩; exact ⟨rfl, ⟨w9, (Wd.h _).to hb9⟩, rfl⟩)))
        refine wpQuiet_nil ?_
        rintro w9 ⟨s9, hs9⟩
        have hb9 : Below wr.heap.size wr w9 := by rw [hs9]; exact s9.h.1
        have HB9 := Lib.hid (cur_step1 HB.out hb9)
        have HK9 := Lib.hid (HK.out.to hb9)
        clear hs9 s9 k0 k1 k2 k3 k4 hex hne K3 HCS hb9
        (try simp only [])
        go_wp2_with fail
        go_roundw
        case rel => exact ⟨k + 1, hlt, by simp, HN.out, HK9.out, HB9.out⟩
        case measure => simp [intOf]; omega
      · have hcmp : ((x.length : Int) != (mostN t : Int) * (t.ov - (k : Int)) + 1) = true := by have := HP.out.1; simp; omega
        have HV2 := Lib.hid (show 4 = v by rw [← HV.out, accT_len1 HX.out hkk HXX.out (by rw [HP.out.2.2]; exact hxl)])
        clear hxl
        go_wp2_with fail
        refine wp_region_wd wr CS (by kernel_rfl) (by kernel_rfl) K3.drew ?_
        repeat (go_big_quiet_step ((go_at_call 35; refine (most_r t HOK.out A W c wc _ (HD.out.to (cur_step1 HB.out (Wd.h _).1))).mono ?_; rintro e w9 ⟨rfl, hb9⟩; exact ⟨rfl, ⟨w9, (Wd.h _).to hb9⟩, rfl⟩)))
        refine wpQuiet_nil ?_
        rintro w9 ⟨s9, hs9⟩
        have hb9 : Below wr.heap.size wr w9 := by rw [hs9]; exact s9.h.1
        have HB9 := Lib.hid (cur_step1 HB.out hb9)
        clear hs9 s9 k0 k1 k2 k3 k4 hex hne K3 HCS hb9
        (try simp only [])
        go_wp2_with fail
        go_ret
        exact ⟨ret_int HV2.out, HB9.out⟩
    · have hke : k = l.length := by omega
      have HSH := Lib.hid (shape_all HLN.out (fun j x hx => HQ.out j x (by have := (List.getElem?_eq_some_iff.1 hx).1; omega) hx))
      have HSH2 := Lib.hid (show ∀ (j : Nat) x, l[j]? = some x → x.length = (rowT t j).length from fun j x hx => HQ.out j x (by have := (List.getElem?_eq_some_iff.1 hx).1; omega) hx)
      subst hke
      clear HQ
      obtain ⟨w2, rfl⟩ : ∃ w2 : World, w2 = wr := ⟨_, rfl⟩
      go_wp2_with fail
      go_loopw [48] (L2R t l A W c wc w) (fun i _ => l.length - (intOf i).toNat)
      case atStart => exact ⟨0, by omega, rfl, fun j hj => by omega, HK.out, HB.out⟩
      case round =>
        obtain ⟨m, hm', rfl, hq, hk2, hb⟩ := hrel
        clear HB HK
        have HQ := Lib.hid hq
        have HB := Lib.hid hb
        have HK := Lib.hid hk2
        clear hq hk2 hb
        by_cases hlt : m < l.length
        · obtain ⟨x, hx⟩ : ∃ x, l[m]? = some x := ⟨_, List.getElem?_eq_getElem hlt⟩
          have hmk : m ≤ t.ov.toNat := by have := HLN.out; omega
          have hmo : (m : Int) ≤ t.ov := by omega
          obtain ⟨z0, _, _, hR7, hRm⟩ := most_at HOK.out
          have hxl := HSH2.out m x hx
          have hx78 : x.length ≤ 78 := by
            rw [hxl, rowT_len]
            have := Nat.mul_le_mul hR7 (show t.ov.toNat - m ≤ 11 by omega)
            omega
          obtain ⟨lb, loff, rfl, hlb, A1, c1, hc1, hr1⟩ := HL.out.at_ HB.out hx
          have HXX := Lib.hid hx
          have HXL := Lib.hid hxl
          have HRMx := Lib.hid hRm
          have HR1 := Lib.hid (hr1.more HB.out.size)
          clear hr1 hx hxl hRm
          obtain ⟨w3, rfl⟩ : ∃ w3 : World, w3 = wr := ⟨_, rfl⟩
          go_wp2_with fail
          go_loopw [55] (L3R t m x w3) (fun i _ => x.length - (intOf i).toNat)
          case atStart => exact ⟨0, by omega, rfl, fun j hj => by omega, Below.refl _ _⟩
          case round =>
            obtain ⟨i, hi, rfl, hq3, hb3⟩ := hrel
            have HQ3 := Lib.hid hq3
            have HB3 := Lib.hid hb3
            have HBw := Lib.hid (cur_step1 HB.out hb3)
            have HK3 := Lib.hid (HK.out.to hb3)
            clear hq3 hb3
            by_cases hli : i < x.length
            · obtain ⟨u, hu⟩ : ∃ u, x[i]? = some u := ⟨_, List.getElem?_eq_getElem hli⟩
              obtain ⟨ub, uoff, rfl, hub, huc⟩ := HR1.out.at_ HB3.out hu
              have cu := in_cell huc
              obtain ⟨t0, t1, t2, t3, t4⟩ := tk_cells HK3.out
              have HU := Lib.hid hu
              have HRI := Lib.hid (rowT_at (t := t) (m := m) (i := i) (by rw [← HXL.out]; exact hli))
              clear huc hu
              by_cases hm0 : m = 0
              · have hmz : decide ((0 : Int) < (m : Int)) = false := by simp; omega
                obtain ⟨nv, hnv⟩ : ∃ nv, nowT t (t.ld + (i : Int)) m = nv := ⟨_, rfl⟩
                have HNV := Lib.hid hnv
                have hvn : valT t m (t.ld + (i : Int)) = nv := by rw [← hnv]; cases m with | zero => rfl | succ m => omega
                rw [hvn] at HRI
                clear hnv hvn
                have hm9 : (m : Int) ≤ 0 := by omega
                clear hm0
                go_wp2_with fail
                refine (now_r t A W c wc (t.ld + (i : Int)) nv m _ HOK.out hmo (HD.out.to HBw.out) (HW.out.to HBw.out) (by omega) HNV.out).mono ?_
                rintro e w4 ⟨rfl, hb4⟩
                have HB4 := Lib.hid (cur_step1 HB3.out hb4)
                clear hb4 t0 t1 t2 t3 t4 cu
                by_cases huv : u = nv
                · subst huv
                  have HN := Lib.hid (l3_next HQ3.out HU.out HRI.out)
                  go_wp2_with fail
                  go_roundw
                  case rel => exact ⟨i + 1, hli, by simp, HN.out, HB4.out⟩
                  case measure => simp [intOf]; omega
                · have huv2 : (u != nv) = true := by simpa using huv
                  have HV2 := Lib.hid (show 12 = v by rw [← HV.out, accT_el HX.out HSH.out hmk HXX.out HU.out HRI.out huv])
                  clear huv
                  go_wp2_with fail
                  go_ret
                  exact ⟨ret_int HV2.out, cur_step1 HB.out HB4.out⟩
              · have hmp : 0 < m := by omega
                have hvp := valT_pos (t := t) (lead := t.ld + (i : Int)) hmp
                obtain ⟨nv, hnv⟩ : ∃ nv, nowT t (t.ld + (i : Int)) m = nv := ⟨_, rfl⟩
                obtain ⟨vv, hvv⟩ : ∃ vv, valT t m (t.ld + (i : Int)) = vv := ⟨_, rfl⟩
                rw [hvv] at HRI hvp
                rw [hnv] at hvp
                have HNV := Lib.hid hnv
                have HVP := Lib.hid hvp
                obtain ⟨y, hy⟩ : ∃ y, l[m - 1]? = some y := ⟨_, List.getElem?_eq_getElem (by omega)⟩
                have hyr : y = rowT t (m - 1) := by
                  have := HQ.out (m - 1) (by omega)
                  rw [hy, tabT_at (by omega)] at this
                  injection this
                have hyl : y.length = x.length + mostN t := by rw [hyr, rowT_prev hmp hmk, HXL.out]
                have HYA := Lib.hid (show ∀ j : Nat, j < y.length → y[j]? = some (valT t (m - 1) (t.ld + (j : Int))) from fun j hj => by rw [hyr] at hj ⊢; exact rowT_at hj)
                have HY := Lib.hid hy
                have hm3 : m - 1 < l.length := by omega
                have hm4 : (1 : Int) ≤ (m : Int) := by omega
                have hm5 : (m : Int) - 1 < (l.length : Int) := by omega
                have hmz : decide ((0 : Int) < (m : Int)) = true := by simp; omega
                have HPB := Lib.hid (fun j => HOK.out.part (f := fun r => valT t (m - 1) (t.ld + (i : Int) + r)) (M := P16 m) (by have := P16_pos m; omega) (fun o _ => by have := HOK.out.val (m := m - 1) (by omega) (t.ld + (i : Int) + o.r); rwa [show m - 1 + 1 = m by omega] at this) j)
                have HVB := Lib.hid (fun l => show 0 ≤ valT t (m - 1) l ∧ valT t (m - 1) l ≤ P16 m by have := HOK.out.val (m := m - 1) (by omega) l; rwa [show m - 1 + 1 = m by omega] at this)
                have hp16 := P16_le (show m + 1 ≤ 12 by omega)
                rw [P16_12] at hp16
                have hpe : P16 (m + 1) = 16 * P16 m := rfl
                clear hnv hvp hvv hyr hy
                go_wp2_with fail
                refine (now_r t A W c wc (t.ld + (i : Int)) nv m _ HOK.out hmo (HD.out.to HBw.out) (HW.out.to HBw.out) (by omega) HNV.out).mono ?_
                rintro e w4 ⟨rfl, hb4⟩
                have HB4 := Lib.hid (cur_step1 HB3.out hb4)
                have HBw4 := Lib.hid (cur_step1 HBw.out hb4)
                obtain ⟨s0, s1, s2, s3, s4⟩ := tk_cells (HK3.out.to hb4)
                have HD4 := Lib.hid (HD.out.to HBw4.out)
                have HE := Lib.hid HOK.out.d.each
                clear hb4 t0 t1 t2 t3 t4 cu
                obtain ⟨lb', loff', he', hlb', Ay, cy, hcy, hry⟩ := HL.out.at_ HBw4.out HY.out
                injection he' with he'
                injection he' with he1 he2
                subst he1 he2
                have HCY := Lib.hid hcy
                have HRY := Lib.hid (hry.more HBw4.out.size)
                have hlb4 := Nat.lt_of_lt_of_le hlb HBw4.out.size
                clear hcy hry hlb'
                have hdl := HOK.out.d.len
                go_wp2_with fail
                clear s0 s1 s2 s3 s4
                go_loopw [13, 72] (L4R t (fun r => valT t (m - 1) (t.ld + (i : Int) + r)) w4) (fun _ i _ => t.d.length - (intOf i).toNat)
                case atStart => exact ⟨0, by omega, rfl, rfl, Below.refl _ _⟩
                case round =>
                  obtain ⟨j, hj, rfl, rfl, hb⟩ := hrel
                  have HB5 := Lib.hid hb
                  clear hb
                  by_cases hltd : j < t.d.length
                  · obtain ⟨z, hz⟩ : ∃ z, t.d[j]? = some z := ⟨_, List.getElem?_eq_getElem hltd⟩
                    obtain ⟨b, off, rfl, hbb, hcl⟩ := HD4.out.at_ HB5.out hz
                    obtain ⟨c0, c1, c2⟩ := oc_cells hcl
                    have hmem := List.mem_of_getElem? hz
                    have hez := HE.out z hmem
                    have hzm := HRMx.out z hmem
                    have HT := Lib.hid (onS_take (f := fun r => valT t (m - 1) (t.ld + (i : Int) + r)) hz)
                    have hp := HPB.out j
                    have hp1 := HPB.out (j + 1)
                    rw [HT.out] at hp1
                    obtain ⟨zr, zk, zw⟩ := z
                    simp only [] at hez hzm hp1 c0 c1 c2
                    obtain ⟨R, rfl⟩ : ∃ R : Nat, zr = R := ⟨zr.toNat, by omega⟩
                    have hfb := HVB.out (t.ld + (i : Int) + (R : Int))
                    have hf1 := HYA.out (i + R) (by omega)
                    rw [show t.ld + ((i + R : Nat) : Int) = t.ld + (i : Int) + (R : Int) by omega] at hf1
                    obtain ⟨fv, hfv⟩ : ∃ fv, valT t (m - 1) (t.ld + (i : Int) + (R : Int)) = fv := ⟨_, rfl⟩
                    have HT2 := Lib.hid (show onS (fun r => valT t (m - 1) (t.ld + (i : Int) + r)) (t.d.take (j + 1)) = onS (fun r => valT t (m - 1) (t.ld + (i : Int) + r)) (t.d.take j) + zw * fv by rw [HT.out, hfv])
                    rw [hfv] at hf1 hfb hp1
                    obtain ⟨yb, yoff, rfl, hyb, hyc⟩ := HRY.out.at_ HB5.out hf1
                    have cl := in_cell hyc
                    have hbs := HB5.out.size
                    have kl : (wr.alloc (.cells #[.int .i64 R, .bool zk, .int .i64 zw] 56)).cell? ⟨yb, yoff + (i + R), none⟩ = some (.int .i64 fv) := ((cur_new wr _).cell (p := ⟨yb, yoff + (i + R), none⟩) (show yb < wr.heap.size by omega)).trans cl
                    have ky : (wr.alloc (.cells #[.int .i64 R, .bool zk, .int .i64 zw] 56)).cell? ⟨lb, loff + (m - 1), none⟩ = some (.slice (some ⟨yb, yoff, none⟩) y.length cy) := ((cur_new wr _).cell (p := ⟨lb, loff + (m - 1), none⟩) (show lb < wr.heap.size by omega)).trans ((HB5.out.cell (p := ⟨lb, loff + (m - 1), none⟩) hlb4).trans HCY.out)
                    have hkl : i + R < y.length := by omega
                    have k0 : (wr.alloc (.cells #[.int .i64 R, .bool zk, .int .i64 zw] 56)).cell? ⟨wr.heap.size, 0, none⟩ = some (.int .i64 R) := (Blk.new wr 56 [.int .i64 R, .bool zk, .int .i64 zw]).cell 0
                    have k2 : (wr.alloc (.cells #[.int .i64 R, .bool zk, .int .i64 zw] 56)).cell? ⟨wr.heap.size, 2, none⟩ = some (.int .i64 zw) := (Blk.new wr 56 [.int .i64 R, .bool zk, .int .i64 zw]).cell 2
                    have hm0' : 0 ≤ zw * fv := Int.mul_nonneg (by omega) hfb.1
                    obtain ⟨S, hS⟩ : ∃ S, onS (fun r => valT t (m - 1) (t.ld + (i : Int) + r)) (t.d.take j) = S := ⟨_, rfl⟩
                    rw [hS] at hp hp1 HT2 ⊢
                    have hr1 : -9223372036854775808 ≤ zw * fv ∧ zw * fv ≤ 9223372036854775807 := by omega
                    have hr2 : -9223372036854775808 ≤ S + zw * fv ∧ S + zw * fv ≤ 9223372036854775807 := by omega
                    clear hcl hyc hz hmem hf1 hfv HT hp1 hS
                    go_wp2_with fail
                    go_quiet (fail)
                    go_wp2
                    go_roundw
                    case rel => exact ⟨j + 1, hltd, by simp, by rw [HT2.out], cur_step1 HB5.out (below_drewN (cur_new _ _) _)⟩
                    case measure => simp [intOf]; omega
                  · have HV3 := Lib.hid (show onS (fun r => valT t (m - 1) (t.ld + (i : Int) + r)) (t.d.take j) = onS (fun r => valT t (m - 1) (t.ld + (i : Int) + r)) t.d by rw [List.take_of_length_le (by omega)])
                    rw [HV3.out]
                    generalize onS (fun r => valT t (m - 1) (t.ld + (i : Int) + r)) t.d = ov at *
                    have hje : j = t.d.length := by omega
                    subst hje
                    have HB6 := Lib.hid (cur_step1 HB4.out HB5.out)
                    by_cases hno : nv < ov
                    all_goals
                      first
                        | (have hvo : vv = ov := by have := HVP.out; omega)
                        | (have hvo : vv = nv := by have := HVP.out; omega)
                      subst hvo
                      by_cases huv : u = vv
                      · subst huv
                        have HN := Lib.hid (l3_next HQ3.out HU.out HRI.out)
                        go_wp2_with fail
                        go_roundw
                        case rel => exact ⟨i + 1, hli, by simp, HN.out, HB6.out⟩
                        case measure => simp [intOf]; omega
                      · have huv2 : (u != vv) = true := by simpa using huv
                        have HV2 := Lib.hid (show 12 = v by rw [← HV.out, accT_el HX.out HSH.out hmk HXX.out HU.out HRI.out huv])
                        clear huv
                        go_wp2_with fail
                        go_ret
                        exact ⟨ret_int HV2.out, cur_step1 HB.out HB6.out⟩
            · have hie : i = x.length := by omega
              have HN := Lib.hid (show ∀ j : Nat, j < m + 1 → l[j]? = (tabT t)[j]? from fun j hj => by
                rcases Nat.lt_or_ge j m with h | h
                · exact HQ.out j h
                · obtain rfl : j = m := by omega
                  rw [HXX.out, tabT_at hmk]
                  congr 1
                  apply List.ext_getElem?
                  intro k
                  rcases Nat.lt_or_ge k i with hk | hk
                  · exact HQ3.out k hk
                  · rw [List.getElem?_eq_none (by omega), List.getElem?_eq_none (by rw [← HXL.out]; omega)])
              subst hie
              go_wp2_with fail
              go_roundw
              case rel => exact ⟨m + 1, hlt, by simp, HN.out, HK3.out, HBw.out⟩
              case measure => simp [intOf]; omega
        · have HV2 := Lib.hid (show 0 = v by rw [← HV.out, accT_ok HX.out HLN.out (fun j hj => HQ.out j (by omega))])
          have hme : m = l.length := by omega
          subst hme
          go_wp2_with fail
          go_ret
          exact ⟨ret_int HV2.out, HB.out⟩
end Go.Proofs.YtkmkdknjpnkkpaaGreatDoor
