/-
  Chapter 47: Table of the reference.
-/
import Derived.Test.YtkmkdknjpnkkpaaGreatDoorTab47
import Derived.Test.YtkmkdknjpnkkpaaGreatDoorVlR47
set_option linter.unusedSimpArgs false
set_option linter.unusedVariables false
namespace Go.Proofs.YtkmkdknjpnkkpaaGreatDoor
open Go.RowKit
set_option maxRecDepth 100000
set_option maxHeartbeats 2000000
theorem own_keepB {α : Type} {enc : α → List Value} {size : Nat} {w w' : World} {base e : Nat} {v : Value} {l : List α} (h : OwnL enc size e base w v l) (hk : ∀ g, base ≤ g → g < w.heap.size → w'.heap[g]? = w.heap[g]?) : OwnL enc size e base w' v l := by
  refine ⟨h.1, ?_⟩
  rcases h.2 with h2 | ⟨g', cap, cur, hv, hb, hh, r⟩
  · exact .inl h2
  · exact .inr ⟨g', cap, cur, hv, hb, by rw [hk g' hb (Array.getElem?_eq_some_iff.1 hh).1]; exact hh, r⟩
theorem Tab.mb {w w' : World} {base b : Nat} {v : Value} {rs : List Rw} (h : Tab w base v rs) (hm : Mb w w' b) (hb : b < base) : Tab w' base v rs :=
  ⟨own_keepB h.own (fun g h1 h2 => hm.keep g h2 (by omega)), fun r hr => own_keepB (h.rows r hr) (fun g h1 h2 => hm.keep g h2 (by omega)), h.far, h.dist⟩
theorem Tab.app2 {w0 w1 : World} {base : Nat} {A : Option Addr} {c g cap : Nat} {rs : List Rw} {r : Rw} (h0 : Tab w0 base (.slice A rs.length c) rs) (hr : OwnL inE 1 2 base w0 (rwV r) r.l) (hne : ∀ x ∈ rs, x.g ≠ r.g) (hv : (Value.slice A rs.length c).ownBlock ≠ some r.g)
    (ha : App w0 w1 base 43 1 (.slice A rs.length c) g cap rs.length 1 (rs.flatMap rwE) (rwE r)) : Tab w1 base (.slice (some ⟨g, 0, none⟩) (rs.length + 1) cap) (rs ++ [r]) := by
  have hlt : ∀ x ∈ rs, x.g < w0.heap.size := fun x hx => (own_blk (h0.rows x hx)).2
  have hrl := (own_blk hr).2
  refine ⟨ha.one rfl, fun x hx => ?_, fun x hx => ?_, ?_⟩
  · rcases List.mem_append.1 hx with hx | hx
    · exact own_same (h0.rows x hx) (ha.grown.block x.g (hlt x hx) (fun e => h0.far x hx e.symm))
    · simp at hx
      subst hx
      exact own_same hr (ha.grown.block _ hrl (fun e => hv e.symm))
  · intro e
    have e : g = x.g := by injection e
    rcases ha.at_ with h1 | h1
    · rw [e] at h1
      rcases List.mem_append.1 hx with hx | hx
      · exact h0.far x hx h1
      · simp at hx; subst hx; exact hv h1
    · rcases List.mem_append.1 hx with hx | hx
      · have := hlt x hx; omega
      · simp at hx; subst hx; omega
  · refine List.pairwise_append.2 ⟨h0.dist, by simp, fun x hx y hy => ?_⟩
    simp at hy
    subst hy
    exact hne x hx
theorem Mb.app {wo w0 w1 : World} {b base : Nat} {e : TypeId} {size : Nat} {v : Value} {g cap n m : Nat} {xs news : List Value} (h : Mb wo w0 b) (ha : App w0 w1 base e size v g cap n m xs news) (hv : ∀ k, v.ownBlock = some k → wo.heap.size ≤ k) (hb : b < wo.heap.size) : Mb wo w1 b :=
  ⟨fun x hx hne => (ha.grown.block x (by have := h.size; omega) (fun e => by have := hv x e.symm; omega)).trans (h.keep x hx hne), by have := h.size; have := ha.grown.size; omega,
    fun B a hB hbb => (h.below B a hB hbb).grown ha.grown (by have := h.size; omega) (fun k hk => by have := hv k hk; omega)⟩
theorem most_r (t : Tk) (hok : OkT t) (A W : Option Addr) (c wc : Nat) (w : World) (hd : Rd ocE 3 w w.heap.size A t.d) :
    Calls Tryz.prog 35 #[tkV t A W c wc] w fun e w' => e = .returned (.int .i64 (mostN t)) ∧ Below w.heap.size w w' := by
  have hb0 := cur_new w (.cells (tkL t A W c wc).toArray 25)
  unfold tkL at hb0
  obtain ⟨hd1, hd2⟩ := hok.d.len
  obtain ⟨z, hz, hzr, hR7, hRm⟩ := most_at hok
  have hd3 : t.d.length - 1 < t.d.length := by omega
  have hd4 : (1 : Int) ≤ (t.d.length : Int) := by omega
  have hd5 : (t.d.length : Int) - 1 < (t.d.length : Int) := by omega
  obtain ⟨ob, ooff, rfl, hob, hoc⟩ := (hd.to hb0) (t.d.length - 1) z hz
  obtain ⟨c0, c1, c2⟩ := oc_cells hoc
  rw [hzr] at c0
  generalize mostN t = R at *
  clear hd hoc hz hzr hRm hok
  go_enter Tryz.func35, Tryz.ntmps35
  go_wp2_with fail
  go_ret
  exact ⟨rfl, hb0⟩
theorem rowT_take {t : Tk} {m i : Nat} (h : i < (rowT t m).length) : (rowT t m).take (i + 1) = (rowT t m).take i ++ [valT t m (t.ld + (i : Int))] := by
  rw [rowT_len] at h
  rw [List.take_add_one, rowT, lstT_at h]; rfl
def TuI (t : Tk) (m b : Nat) (wo : World) (v i : Value) (wr : World) : Prop := ∃ (k : Nat) (l : List Int) (A : Option Addr) (c : Nat), k ≤ (rowT t m).length ∧ i = .int .i64 k ∧ v = .slice A l.length c ∧ l = (rowT t m).take k ∧ OwnL inE 1 2 wo.heap.size wr (.slice A l.length c) l ∧ (∃ ks, Memo (vF t) wr b ks) ∧ Mb wo wr b
def TuR (t : Tk) (A W : Option Addr) (c wc b : Nat) (w : World) (v i : Value) (wr : World) : Prop := ∃ (k : Nat) (rs : List Rw) (A' : Option Addr) (c' : Nat), k ≤ t.ov.toNat + 1 ∧ i = .int .i64 k ∧ v = .slice A' rs.length c' ∧ rs.map Rw.l = (tabT t).take k ∧ Tab wr (b + 1) (.slice A' rs.length c') rs ∧ Blk wr w.heap.size 25 (tkL t A W c wc) ∧ (∃ ks, Memo (vF t) wr b ks) ∧ Below w.heap.size w wr
theorem Table_r (t : Tk) (A W : Option Addr) (c wc : Nat) (w : World) (hs : Sm t) (hd : Rd ocE 3 w w.heap.size A t.d) (hw : Rd2 w w.heap.size W t.win) :
    Calls Tryz.prog 20 #[tkV t A W c wc] w (TbPost t w) := by
  unfold TbPost
  obtain ⟨e0, he0⟩ : ∃ e0, ckT t = e0 := ⟨_, rfl⟩
  have HD := Lib.hid hd
  have HW := Lib.hid hw
  have hbk := Blk.new w 25 (tkL t A W c wc)
  have hb0 := cur_new w (.cells (tkL t A W c wc).toArray 25)
  unfold tkL at hbk hb0
  clear hd hw
  by_cases h0 : e0 ≠ 0
  · have e1 : (e0 != 0) = true := by simpa using h0
    have HV := Lib.hid (show TabT t = ([], e0) by unfold TabT; rw [he0, if_pos h0])
    clear h0
    go_enter Tryz.func20, Tryz.ntmps20
    go_wp2_with (go_at_call 16; refine (ckt_r t A W c wc e0 _ hs (HD.out.to hb0) (HW.out.to hb0) he0).mono ?_; rintro e w1 ⟨rfl, hb1⟩; have HB := Lib.hid (cur_step1 hb0 hb1); clear hb1)
    go_ret2
    rw [HV.out]
    exact ⟨_, rfl, [], Tab.nil _ _, rfl, HB.out⟩
  · have h0' : e0 = 0 := by simpa using h0
    subst h0'
    have HV := Lib.hid (show TabT t = (tabT t, 0) by unfold TabT; rw [he0, if_neg h0])
    clear h0
    have hok := okT_of he0
    obtain ⟨hov0, hov1⟩ := hok.ov
    obtain ⟨hld0, hld1⟩ := hok.ld
    obtain ⟨z, hz, hzr, hR7, hRm⟩ := most_at hok
    have HOK := Lib.hid hok
    have HX := Lib.hid he0
    have hmk : ∀ w, Sem.run Tryz.prog (Instr.makeMap 51 none) w = .ok (.map (some w.heap.size)) (w.alloc (.map #[] 0)) := fun w => run_makeMap _ w
    clear hok he0 hRm hz hzr
    go_enter Tryz.func20, Tryz.ntmps20
    go_wp2_with fail
    refine (ckt_r t A W c wc 0 _ hs (HD.out.to hb0) (HW.out.to hb0) HX.out).mono ?_
    rintro e w1 ⟨rfl, hb1⟩
    have HB := Lib.hid (cur_step1 (cur_step1 hb0 hb1) (cur_new w1 (.map #[] 0)))
    have HK := Lib.hid ((hbk.to hb1).to (cur_new w1 (.map #[] 0)))
    have hl1 : w.heap.size < w1.heap.size := (hbk.to hb1).lt
    have HM := Lib.hid (Memo.made (vF t) w1)
    clear hb1 hbk hb0
    go_wp2_with fail
    generalize hbb : w1.heap.size = b at *
    generalize w1.alloc (.map #[] 0) = wm at *
    clear hbb
    go_loopw [6, 7] (TuR t A W c wc b w) (fun _ i _ => t.ov.toNat + 1 - (intOf i).toNat)
    case atStart => exact ⟨0, [], none, 0, by omega, rfl, rfl, rfl, Tab.nil _ _, HK.out, ⟨_, HM.out⟩, HB.out⟩
    case round =>
      obtain ⟨m, rs, A', c', hk, rfl, rfl, hrs, htab, hk2, ⟨ks, hm⟩, hb⟩ := hrel
      clear HB HK HM
      have HRS := Lib.hid hrs
      have HT := Lib.hid htab
      have HB := Lib.hid hb
      have HK := Lib.hid hk2
      have HM := Lib.hid hm
      obtain ⟨t0, t1, t2, t3, t4⟩ := tk_cells hk2
      have l1 : w.heap.size < wr.heap.size := hk2.lt
      have l2 : b < wr.heap.size := hm.lt
      have hrl : rs.length = m := by
        have := congrArg List.length hrs
        rw [List.length_map, List.length_take, tabT_len] at this
        omega
      clear hrs htab hk2 hb hm
      by_cases hlt : m < t.ov.toNat + 1
      · have hmul : ∃ P : Nat, (mostN t : Int) * (t.ov - (m : Int)) = (P : Int) ∧ P = mostN t * (t.ov.toNat - m) ∧ P ≤ 77 := by
          refine ⟨mostN t * (t.ov.toNat - m), ?_, rfl, ?_⟩
          · rw [Int.natCast_mul]; congr 1; omega
          · exact Nat.mul_le_mul hR7 (show t.ov.toNat - m ≤ 11 by omega)
        obtain ⟨P, hP1, hP2, hP3⟩ := hmul
        have hRL : (rowT t m).length = P + 1 := by rw [rowT_len, hP2]
        have hkk : (m : Int) ≤ t.ov := by omega
        have HRLen := Lib.hid hRL
        have HP := Lib.hid (And.intro hP1 hP2)
        have HRL := Lib.hid hrl
        clear hP1 hP2 hrl hRL
        go_wp2_with fail
        obtain ⟨wo, rfl⟩ : ∃ wo : World, wo = wr := ⟨_, rfl⟩
        clear t0 t1 t2 t3 t4
        go_loopw [8, 9] (TuI t m b wo) (fun _ i _ => P + 1 - (intOf i).toNat)
        case atStart => exact ⟨0, [], none, 0, by omega, rfl, rfl, rfl, World.ownsRow_nil _ _ _ _, ⟨ks, HM.out⟩, ⟨fun _ _ _ => rfl, Nat.le_refl _, fun _ _ h _ => h⟩⟩
        case round =>
          obtain ⟨k, l, A8, c8, hk8, rfl, rfl, hl8, hown8, ⟨ks2, hm2⟩, hmb⟩ := hrel
          have HL8 := Lib.hid hl8
          have HO8 := Lib.hid hown8
          have HM8 := Lib.hid hm2
          have HMB := Lib.hid hmb
          have hk3 := hmb.blk HK.out (by omega)
          have HK8 := Lib.hid hk3
          obtain ⟨t0, t1, t2, t3, t4⟩ := tk_cells hk3
          have HBw := Lib.hid (hmb.below w.heap.size w HB.out (by omega))
          have l3 : w.heap.size < wr.heap.size := hk3.lt
          have l4 : b < wr.heap.size := hm2.lt
          have hs1 : IntKind.i64.wrap (t.ov - (m : Int)) = t.ov - (m : Int) := by rw [IntKind.wrap_i64]; omega
          have hs2 : IntKind.i64.wrap ((mostN t : Int) * (t.ov - (m : Int))) = (mostN t : Int) * (t.ov - (m : Int)) := by have := HP.out.1; rw [IntKind.wrap_i64]; omega
          have hll : l.length = k := by rw [hl8, List.length_take]; omega
          rw [HRLen.out] at hk8
          have HLL := Lib.hid hll
          clear hl8 hown8 hm2 hmb hk3 hll
          by_cases hlt8 : k < P + 1
          · have hcmp : decide ((k : Int) ≤ (mostN t : Int) * (t.ov - (m : Int))) = true := by have := HP.out.1; simp; omega
            obtain ⟨CS, hCS⟩ : ∃ CS : List (Nat × Nat × Value), CS = [(w.heap.size, 0, .int .i64 t.ov), (w.heap.size, 1, .int .i64 t.ld), (w.heap.size, 2, .int .i64 t.sp), (w.heap.size, 3, .slice A t.d.length c), (w.heap.size, 4, .slice W t.win.length wc)] := ⟨_, rfl⟩
            have K3 : Keep wr wr CS := by rw [hCS]; exact Keep.start (Below.refl _ _) (by simp [t0, t1, t2, t3, t4, l3])
            have k0 : ∀ s : Wd wr CS, s.w.cell? ⟨w.heap.size, 0, none⟩ = some (.int .i64 t.ov) := fun s => s.h.get (by simp [hCS])
            have k1 : ∀ s : Wd wr CS, s.w.cell? ⟨w.heap.size, 1, none⟩ = some (.int .i64 t.ld) := fun s => s.h.get (by simp [hCS])
            have k2 : ∀ s : Wd wr CS, s.w.cell? ⟨w.heap.size, 2, none⟩ = some (.int .i64 t.sp) := fun s => s.h.get (by simp [hCS])
            have k3 : ∀ s : Wd wr CS, s.w.cell? ⟨w.heap.size, 3, none⟩ = some (.slice A t.d.length c) := fun s => s.h.get (by simp [hCS])
            have k4 : ∀ s : Wd wr CS, s.w.cell? ⟨w.heap.size, 4, none⟩ = some (.slice W t.win.length wc) := fun s => s.h.get (by simp [hCS])
            have hex : ∀ s : Wd wr CS, ∃ s' : Wd wr CS, s.w = s'.w := fun s => ⟨s, rfl⟩
            haveI hne : Nonempty (Wd wr CS) := ⟨⟨_, K3⟩⟩
            have HCS := Lib.hid hCS
            clear hCS t0 t1 t2 t3 t4
            go_wp2_with fail
            refine wp_region_wd wr CS (by kernel_rfl) (by kernel_rfl) K3.drew ?_
            repeat (go_big_quiet_step ((go_at_call 35; refine (most_r t HOK.out A W c wc _ (HD.out.to (cur_step1 HBw.out (Wd.h _).1))).mono ?_; rintro e w9 ⟨rfl, hb9⟩; exact ⟨rfl, ⟨w9, (Wd.h _).to hb9⟩, rfl⟩)))
            refine wpQuiet_nil ?_
            rintro w9 ⟨s9, hs9⟩
            have hb9 : Below wr.heap.size wr w9 := by rw [hs9]; exact s9.h.1
            have HB9 := Lib.hid hb9
            have HM9 := Lib.hid (HM8.out.to hb9)
            have HO9 := Lib.hid (own_below HO8.out hb9 (Nat.le_refl _))
            have HMB9 := Lib.hid (HMB.out.trans (Mb.of hb9 l4))
            have HBw9 := Lib.hid (cur_step1 HBw.out hb9)
            have l9 := hb9.size
            obtain ⟨t0, t1, t2, t3, t4⟩ := tk_cells (HK8.out.to hb9)
            clear hs9 s9 k0 k1 k2 k3 k4 hex hne K3 HCS hb9
            (try simp only [])
            go_wp2_with fail
            refine (val_all t HOK.out m hkk A W c wc (t.ld + (k : Int)) b ks2 _ ⟨w.heap.size, by omega, HD.out.below HBw9.out, HW.out.below HBw9.out⟩ (by omega) HM9.out).mono ?_
            rintro e w4 ⟨rfl, ⟨ks4, hm4, _⟩, hb4⟩
            have HM4 := Lib.hid (hm4.to (cur_new w4 (.cells (inE (valT t m (t.ld + (k : Int)))).toArray 2)))
            have hmb4 := HMB9.out.trans hb4
            have HMB4 := Lib.hid (hmb4.trans (Mb.of (cur_new w4 (.cells (inE (valT t m (t.ld + (k : Int)))).toArray 2)) hm4.lt))
            have HO4 := Lib.hid (own_below (own_keepB HO9.out (fun g h1 h2 => hb4.keep g h2 (by omega))) (cur_new w4 (.cells (inE (valT t m (t.ld + (k : Int)))).toArray 2)) (Nat.le_refl _))
            have l5 : wo.heap.size ≤ w4.heap.size := hmb4.size
            have hl78 : l.length ≤ 78 := by have := HLL.out; omega
            clear hm4 hb4 hmb4 t0 t1 t2 t3 t4
            go_wp2_with (at_builtin; refine wpList_app1 Tryz.i64Elem _ rfl (.tmp 33) (.tmp 42) rfl wo.heap.size A8 c8 l rfl ?o1 (valT t m (t.ld + (k : Int))) w4.heap.size 1 rfl ?o2 ?o3 ?o4 ?o5 ?_)
            case o1 => exact HO4.out
            case o2 => first | exact heap_alloc_new _ _ | exact (Array.getElem?_eq_some_iff.1 (heap_alloc_new _ _)).2
            case o3 => unfold maxLen; omega
            case o4 => omega
            case o5 => first | omega | (simp; omega)
            intro g2 cap w6 ha
            have hbase : ∀ k', (Value.slice A8 l.length c8).ownBlock = some k' → wo.heap.size ≤ k' := fun k' e => (own_block_lt HO4.out e).1
            have HMB6 := Lib.hid (HMB4.out.app ha hbase l2)
            have HM6 := Lib.hid (HM4.out.same (ha.grown.block b HM4.out.lt (fun e => by have := hbase _ e.symm; omega)))
            have HO6 := Lib.hid (ha.one rfl)
            clear ha hbase
            go_wp2_with fail
            go_roundw
            case rel => exact ⟨k + 1, l ++ [valT t m (t.ld + (k : Int))], some ⟨g2, 0, none⟩, cap, by rw [HRLen.out]; omega, by simp, by simp, by rw [rowT_take (by rw [HRLen.out]; omega), ← HL8.out], by simpa using HO6.out, ⟨ks4, HM6.out⟩, HMB6.out⟩
            case measure => simp [intOf]; omega
          · have hcmp : decide ((k : Int) ≤ (mostN t : Int) * (t.ov - (m : Int))) = false := by have := HP.out.1; simp; omega
            obtain ⟨CS, hCS⟩ : ∃ CS : List (Nat × Nat × Value), CS = [(w.heap.size, 0, .int .i64 t.ov), (w.heap.size, 1, .int .i64 t.ld), (w.heap.size, 2, .int .i64 t.sp), (w.heap.size, 3, .slice A t.d.length c), (w.heap.size, 4, .slice W t.win.length wc)] := ⟨_, rfl⟩
            have K3 : Keep wr wr CS := by rw [hCS]; exact Keep.start (Below.refl _ _) (by simp [t0, t1, t2, t3, t4, l3])
            have k0 : ∀ s : Wd wr CS, s.w.cell? ⟨w.heap.size, 0, none⟩ = some (.int .i64 t.ov) := fun s => s.h.get (by simp [hCS])
            have k1 : ∀ s : Wd wr CS, s.w.cell? ⟨w.heap.size, 1, none⟩ = some (.int .i64 t.ld) := fun s => s.h.get (by simp [hCS])
            have k2 : ∀ s : Wd wr CS, s.w.cell? ⟨w.heap.size, 2, none⟩ = some (.int .i64 t.sp) := fun s => s.h.get (by simp [hCS])
            have k3 : ∀ s : Wd wr CS, s.w.cell? ⟨w.heap.size, 3, none⟩ = some (.slice A t.d.length c) := fun s => s.h.get (by simp [hCS])
            have k4 : ∀ s : Wd wr CS, s.w.cell? ⟨w.heap.size, 4, none⟩ = some (.slice W t.win.length wc) := fun s => s.h.get (by simp [hCS])
            have hex : ∀ s : Wd wr CS, ∃ s' : Wd wr CS, s.w = s'.w := fun s => ⟨s, rfl⟩
            haveI hne : Nonempty (Wd wr CS) := ⟨⟨_, K3⟩⟩
            have HCS := Lib.hid hCS
            clear hCS t0 t1 t2 t3 t4
            go_wp2_with fail
            refine wp_region_wd wr CS (by kernel_rfl) (by kernel_rfl) K3.drew ?_
            repeat (go_big_quiet_step ((go_at_call 35; refine (most_r t HOK.out A W c wc _ (HD.out.to (cur_step1 HBw.out (Wd.h _).1))).mono ?_; rintro e w9 ⟨rfl, hb9⟩; exact ⟨rfl, ⟨w9, (Wd.h _).to hb9⟩, rfl⟩)))
            refine wpQuiet_nil ?_
            rintro w9 ⟨s9, hs9⟩
            have hb9 : Below wr.heap.size wr w9 := by rw [hs9]; exact s9.h.1
            have HB9 := Lib.hid hb9
            have HM9 := Lib.hid (HM8.out.to hb9)
            have HO9 := Lib.hid (own_below HO8.out hb9 (Nat.le_refl _))
            have HMB9 := Lib.hid (HMB.out.trans (Mb.of hb9 l4))
            have HBw9 := Lib.hid (cur_step1 HBw.out hb9)
            have l9 := hb9.size
            obtain ⟨t0, t1, t2, t3, t4⟩ := tk_cells (HK8.out.to hb9)
            clear hs9 s9 k0 k1 k2 k3 k4 hex hne K3 HCS hb9
            (try simp only [])
            have hfull : l = rowT t m := by rw [HL8.out, List.take_of_length_le (by rw [HRLen.out]; omega)]
            subst hfull
            obtain ⟨g8, cc8, hv8⟩ := own_rw HO9.out (rowT_ne t m)
            injection hv8 with hv1 hv2 hv3
            subst hv1 hv3
            have HT9 := Lib.hid (HT.out.mb HMB9.out (by omega))
            have hrl12 : rs.length ≤ 12 := by have := HRL.out; omega
            clear t0 t1 t2 t3 t4 hv2
            go_wp2_with (at_builtin; refine wpList_app1 Tryz.rwElem _ rfl (.tmp 44) (.tmp 46) rfl (b + 1) A' c' rs rfl ?o1 ⟨g8, c8, rowT t m⟩ w9.heap.size 1 rfl ?o2 ?o3 ?o4 ?o5 ?_)
            case o1 => exact (HT9.out.to (cur_new _ _)).own
            case o2 => first | exact heap_alloc_new _ _ | exact (Array.getElem?_eq_some_iff.1 (heap_alloc_new _ _)).2
            case o3 => unfold maxLen; omega
            case o4 => omega
            case o5 => first | omega | (simp; omega)
            intro g2 cap w6 ha
            have hbn := cur_new w9 (.cells (rwE ⟨g8, c8, rowT t m⟩).toArray 43)
            have hg8 := (own_blk HO9.out).1
            have hlt8' : ∀ k', (Value.slice A' rs.length c').ownBlock = some k' → b + 1 ≤ k' ∧ k' < wo.heap.size := fun k' e => own_block_lt HT.out.own e
            have HT6 := Lib.hid ((HT9.out.to hbn).app2 (r := ⟨g8, c8, rowT t m⟩) (own_below (own_mono HO9.out (by omega)) hbn (Nat.le_refl _)) (fun x hx => by have := (own_blk (HT.out.rows x hx)).2; show x.g ≠ g8; omega) (fun e => by have := (hlt8' _ e).2; simp only [] at this; omega) ha)
            have HB6 := Lib.hid (Below.tabEnd HBw9.out hbn ha (fun b' hb' => by have := (hlt8' _ hb').1; omega))
            have HM6 := Lib.hid ((HM9.out.to hbn).same (ha.grown.block b (HM9.out.to hbn).lt (fun e => by have := (hlt8' _ e.symm).1; omega)))
            have HK6 := Lib.hid (show Blk w6 w.heap.size 25 (tkL t A W c wc) by
              have h1 := (HK8.out.to HB9.out).to hbn
              unfold Blk at h1 ⊢
              rw [ha.grown.block w.heap.size (Nat.lt_of_lt_of_le (by omega) hbn.size) (fun e => by have := (hlt8' _ e.symm).1; omega)]
              exact h1)
            clear ha hbn hg8 hlt8'
            go_wp2_with fail
            go_roundw
            case rel => exact ⟨m + 1, rs ++ [⟨g8, c8, rowT t m⟩], some ⟨g2, 0, none⟩, cap, hlt, by simp, by simp, by rw [List.map_append, HRS.out, tabT_take (by omega)]; rfl, by simpa using HT6.out, HK6.out, ⟨ks2, HM6.out⟩, HB6.out⟩
            case measure => simp [intOf]; omega
      · have hkk : ¬ ((m : Int) ≤ t.ov) := by omega
        have HRE := Lib.hid (show rs.map Rw.l = tabT t by rw [HRS.out, List.take_of_length_le (by rw [tabT_len]; omega)])
        clear hrl
        go_wp2_with fail
        go_ret2
        rw [HV.out]
        exact ⟨_, rfl, rs, HT.out.mono (by omega), HRE.out, HB.out⟩
end Go.Proofs.YtkmkdknjpnkkpaaGreatDoor
