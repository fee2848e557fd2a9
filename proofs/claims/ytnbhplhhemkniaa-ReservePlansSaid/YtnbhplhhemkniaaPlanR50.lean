/-
  Chapter 50: Plan of the reference.
-/
import Derived.Test.YtnbhplhhemkniaaTgR50
namespace Go.Proofs.Ytnbhplhhemkniaa
open Go.RowKit
set_option maxRecDepth 100000
set_option maxHeartbeats 4000000
def bl (l : List Bool) : List Value := l.map Value.bool
theorem bl_fn (n : Nat) (x : Bool) : fn n (fun _ => Value.bool x) = bl (List.replicate n x) := by
  rw [← fn_rep]
  simp [bl]
theorem bl_at {l : List Bool} {k : Nat} {x : Bool} (h : l[k]? = some x) : (bl l)[k]? = some (.bool x) := by unfold bl; rw [List.getElem?_map, h]; rfl
theorem bl_set (l : List Bool) (k : Nat) (x : Bool) : (bl l).set k (.bool x) = bl (l.set k x) := by unfold bl; rw [List.map_set]
theorem bl_rd {w : World} {g : Nat} {e : TypeId} {l : List Bool} (h : Blk w g e (bl l)) : Rd bE 1 w w.heap.size (some ⟨g, 0, none⟩) l := by
  intro k x hx
  refine ⟨g, 0, rfl, h.lt, fun j u hu => ?_⟩
  have hj : j = 0 ∧ u = .bool x := by
    cases j with
    | zero => simp [bE] at hu; exact ⟨rfl, hu.symm⟩
    | succ j => simp [bE] at hu
  obtain ⟨rfl, rfl⟩ := hj
  have := h.cell k
  rw [bl_at hx] at this
  simpa using this
def CapsQ (js : List Jb) (first : Int) (caps : List Int) (w : World) (G H : Nat) (i : Value) (wr : World) : Prop := ∃ k : Nat, k ≤ caps.length ∧ i = .int .i64 k ∧ Blk wr G 2 (il (daysOf (planF js first (caps.take k) (List.replicate js.length (-1))))) ∧ Blk wr H 4 (bl (doneOf (planF js first (caps.take k) (List.replicate js.length (-1))))) ∧ Blk wr w.heap.size 30 [.int .i64 0, .int .i64 0] ∧ Below w.heap.size w wr
def InQ (js : List Jb) (day : Int) (D0 : List Int) (c : Int) (w : World) (G H : Nat) (i : Value) (wr : World) : Prop := ∃ m : Nat, m ≤ c.toNat ∧ i = .int .i64 m ∧ Blk wr G 2 (il (daysOf (iterD js day m D0))) ∧ Blk wr H 4 (bl (doneOf (iterD js day m D0))) ∧ Blk wr w.heap.size 30 [.int .i64 0, .int .i64 0] ∧ Below w.heap.size w wr
def LastQ (js : List Jb) (DD : List Int) (w : World) (G H : Nat) (i : Value) (wr : World) : Prop := ∃ k : Nat, k ≤ js.length ∧ i = .int .i64 k ∧ Blk wr G 2 (il (daysOf DD)) ∧ Blk wr H 4 (bl (doneOf DD)) ∧ Blk wr w.heap.size 30 [.int .i64 0, .int .i64 0] ∧ Below w.heap.size w wr ∧
  (∀ p j d, p < k → js[p]? = some j → DD[p]? = some d → lateJ (j, d) = false)
theorem days_id {js : List Jb} {DD : List Int} (hl : DD.length = js.length) (h : ∀ p j d, p < js.length → js[p]? = some j → DD[p]? = some d → lateJ (j, d) = false) : daysOf DD = DD := by
  apply List.ext_getElem?
  intro i
  cases hd : DD[i]? with
  | none => unfold daysOf; rw [List.getElem?_map, hd]; rfl
  | some d =>
    rw [daysOf_at hd]
    have hi := (List.getElem?_eq_some_iff.1 hd).1
    have hj := List.getElem?_eq_getElem (show i < js.length by omega)
    have := h i _ d (by omega) hj hd
    unfold lateJ at this
    simp at this
    rw [if_neg (by omega)]
theorem planr_ok (A C : Option Addr) (jc cc : Nat) (js : List Jb) (caps : List Int) (first : Int) (w : World) (hck : ckT js first caps = 0) (hjl : js.length ≤ 400) (hcl : caps.length ≤ 400) (hra : Rd jbE 2 w w.heap.size A js) (hrc : Rd inE 1 w w.heap.size C caps) : Calls Try.prog 10 #[.slice A js.length jc, .int .i64 first, .slice C caps.length cc] w fun e w' => ∃ v x y err, e = .returned (.tuple #[v, .agg #[.int .i64 x, .int .i64 y], .int .i64 err]) ∧ PlanS w.heap.size js first caps v x y err w' ∧ Below w.heap.size w w' := by
  have HA := Lib.hid hra
  have HC := Lib.hid hrc
  have HCK := Lib.hid hck
  have HF := Lib.hid (ckT_facts hck)
  clear hra hrc hck
  have HA2 := Lib.hid (HA.out.to (cur_new w (.cells #[.int .i64 0, .int .i64 0] 30)))
  have HC2 := Lib.hid (HC.out.to (cur_new w (.cells #[.int .i64 0, .int .i64 0] 30)))
  have HKW := Lib.hid (Blk.new w 30 [.int .i64 0, .int .i64 0])
  go_enter Try.func10, Try.ntmps10
  go_wp2_with (first
    | (go_at_call 12; refine (check_r _ _ _ _ _ _ _ _ (by omega) (by omega) HA2.out HC2.out).mono ?_; rintro e w1 ⟨rfl, hb⟩; rw [HCK.out]; have HB := Lib.hid (cur_step0 hb); have HKW1 := Lib.hid (HKW.out.to hb); clear hb)
    | (refine wpList_makeN _ rfl _ _ _ rfl 2 (.int .i64 0) 8 (by kernel_rfl) (by kernel_rfl) (by kernel_rfl) .i64 .i64 js.length (by rfl) (by rfl) (by omega) (by unfold maxLen; omega) ?_; intro w3 hq hb3; have HB3 := Lib.hid (cur_step1 HB.out hb3); have HKW3 := Lib.hid (HKW1.out.to hb3); have HQ := Lib.hid hq; clear hq hb3)
    | (refine wpList_makeN _ rfl _ _ _ rfl 4 (.bool false) 1 (by kernel_rfl) (by kernel_rfl) (by kernel_rfl) .i64 .i64 js.length (by rfl) (by rfl) (by omega) (by unfold maxLen; omega) ?_; intro w4 hr hb4; have HB4 := Lib.hid (cur_step1 HB3.out hb4); have HKW4 := Lib.hid (HKW3.out.to hb4); have HQ4 := Lib.hid (HQ.out.to hb4); have HR := Lib.hid hr; clear hr hb4))
  obtain ⟨G, hG⟩ : ∃ G, G = w1.heap.size := ⟨_, rfl⟩
  obtain ⟨H, hH⟩ : ∃ H, H = w3.heap.size := ⟨_, rfl⟩
  have hGw : w.heap.size < G := by rw [hG]; exact HKW1.out.lt
  have hGH : G < H := by rw [hG, hH]; exact HQ.out.lt
  rw [← hG, il_fn, ← daysOf_new] at HQ4
  rw [← hH, bl_fn, ← doneOf_new] at HR
  rw [← hG, ← hH]
  clear hG hH HQ HB HB3 HKW1 HKW3
  go_loopw [36] (CapsQ js first caps w G H) (fun i _ => caps.length - (intOf i).toNat)
  case atStart => exact ⟨0, by omega, rfl, HQ4.out, HR.out, HKW4.out, HB4.out⟩
  case round =>
    clear HQ4 HR HKW4 HB4
    obtain ⟨k, hk, rfl, hq, hr, hkw, hb⟩ := hrel
    have HQ := Lib.hid hq
    have HR := Lib.hid hr
    have HKW := Lib.hid hkw
    have HB := Lib.hid hb
    clear hq hr hkw hb
    by_cases hlt : k < caps.length
    · obtain ⟨c, hc⟩ : ∃ c, caps[k]? = some c := ⟨_, List.getElem?_eq_getElem hlt⟩
      obtain ⟨b, off, rfl, hbb, hcc⟩ := HC.out.at_ HB.out hc
      have cc0 := in_cell hcc
      obtain ⟨D0, hD0⟩ : ∃ D0, planF js first (caps.take k) (List.replicate js.length (-1)) = D0 := ⟨_, rfl⟩
      have hD0l : D0.length = js.length := by rw [← hD0, planF_len]; simp
      have HPT := Lib.hid (show planF js first (caps.take (k + 1)) (List.replicate js.length (-1)) = iterD js (first + k) c.toNat D0 by rw [planF_take hc, hD0])
      have hcr : 0 ≤ c ∧ c ≤ 20 := by
        have := List.all_eq_true.1 HF.out.2.2.2.2.1 c (List.mem_of_getElem? hc)
        unfold capOk at this; simpa using this
      obtain ⟨hc0, hc20⟩ := hcr
      rw [hD0] at HQ HR
      have hf0 := HF.out.2.2.1
      have hf1 := HF.out.2.2.2.1
      clear hcc hc hD0
      go_wp2_with fail
      go_loopw [45] (InQ js (first + k) D0 c w G H) (fun i _ => c.toNat - (intOf i).toNat)
      case atStart => exact ⟨0, by omega, rfl, HQ.out, HR.out, HKW.out, HB.out⟩
      case round =>
        clear HQ HR HKW HB cc0
        obtain ⟨m, hm, rfl, hq, hr, hkw, hb⟩ := hrel
        have hDl : (iterD js (first + k) m D0).length = js.length := by rw [iterD_len, hD0l]
        have HIT := Lib.hid (show iterD js (first + k) (m + 1) D0 = stepD js (first + k) (iterD js (first + k) m D0) from rfl)
        have HQ := Lib.hid hq
        have HR := Lib.hid hr
        have HKW := Lib.hid hkw
        have HB := Lib.hid hb
        clear hq hr hkw hb
        by_cases hltm : (m : Int) < c
        · obtain ⟨D, hD⟩ : ∃ D, iterD js (first + k) m D0 = D := ⟨_, rfl⟩
          rw [hD] at HQ HR hDl HIT
          clear hD
          cases hbn : bestN js D (first + k) js.length with
          | none =>
            have HBN := Lib.hid hbn
            have HST := Lib.hid (show iterD js (first + k) (m + 1) D0 = D from by rw [HIT.out]; unfold stepD; rw [hbn])
            clear hbn
            go_wp2_with (go_at_call 24; refine (next_r _ _ _ _ js D _ _ hjl hDl (HA.out.to HB.out) (bl_rd HR.out)).mono ?_; rintro e w4 ⟨rfl, hb4⟩; rw [HBN.out]; have HB4 := Lib.hid (cur_step1 HB.out hb4); have HQ4 := Lib.hid (HQ.out.to hb4); have HR4 := Lib.hid (HR.out.to hb4); have HKW4 := Lib.hid (HKW.out.to hb4); clear hb4; unfold bestV)
            exact ⟨⟨m + 1, by omega, by simp, by rw [HST.out]; exact HQ4.out, by rw [HST.out]; exact HR4.out, HKW4.out, HB4.out⟩, by simp [intOf]; omega⟩
          | some q =>
            have hql := (bestN_lt hbn).2
            have HBN := Lib.hid hbn
            have HST := Lib.hid (show iterD js (first + k) (m + 1) D0 = D.set q (first + k) from by rw [HIT.out]; unfold stepD; rw [hbn])
            obtain ⟨dv, hdv⟩ : ∃ dv, D[q]? = some dv := ⟨_, List.getElem?_eq_getElem (by omega)⟩
            have HDV := Lib.hid (il_at (daysOf_at hdv))
            have HEV := Lib.hid (bl_at (doneOf_at hdv))
            obtain ⟨x1, hx1⟩ : ∃ x1, (if dv < 0 then 0 else dv) = x1 := ⟨_, rfl⟩
            obtain ⟨x2, hx2⟩ : ∃ x2, (!decide (dv < 0)) = x2 := ⟨_, rfl⟩
            rw [hx1] at HDV
            rw [hx2] at HEV
            clear hbn hdv hx1 hx2
            go_wp2_with (go_at_call 24; refine (next_r _ _ _ _ js D _ _ hjl hDl (HA.out.to HB.out) (bl_rd HR.out)).mono ?_; rintro e w4 ⟨rfl, hb4⟩; rw [HBN.out]; have HB4 := Lib.hid (cur_step1 HB.out hb4); have HQ4 := Lib.hid (HQ.out.to hb4); have HR4 := Lib.hid (HR.out.to hb4); have HKW4 := Lib.hid (HKW.out.to hb4); clear hb4; unfold bestV; have cq : w4.cell? ⟨G, q, none⟩ = some (.int .i64 x1) := (HQ4.out.cell q).trans HDV.out; have fq := HQ4.out.frozen q; have cr : w4.cell? ⟨H, q, none⟩ = some (.bool x2) := (HR4.out.cell q).trans HEV.out; have fr := HR4.out.frozen q)
            exact ⟨⟨m + 1, by omega, by simp, by rw [HST.out, ← daysOf_set _ _ (by omega), ← il_set]; exact (HQ4.out.other (by omega) q _).set q _, by rw [HST.out, ← doneOf_set _ _ (by omega), ← bl_set]; exact (HR4.out.set q _).other (by omega) q _, (HKW4.out.other (by omega) q _).other (by omega) q _, below_set (below_set HB4.out (by omega) q _) (by omega) q _⟩, by simp [intOf]; omega⟩
        · have hme : m = c.toNat := by omega
          rw [hme] at HQ HR
          clear hme
          go_wp2_with fail
          exact ⟨⟨k + 1, hlt, by simp, by rw [HPT.out]; exact HQ.out, by rw [HPT.out]; exact HR.out, HKW.out, HB.out⟩, by simp [intOf]; omega⟩
    · have hke : k = caps.length := by omega
      subst hke
      rw [List.take_length] at HQ HR
      obtain ⟨DD, hDD⟩ : ∃ DD, planD js first caps = DD := ⟨_, rfl⟩
      have hDl : DD.length = js.length := by rw [← hDD]; unfold planD; rw [planF_len]; simp
      have HDD := Lib.hid hDD
      rw [show planF js first caps (List.replicate js.length (-1)) = DD from hDD] at HQ HR
      clear hDD
      go_wp2_with fail
      go_loopw [64] (LastQ js DD w G H) (fun i _ => js.length - (intOf i).toNat)
      case atStart => exact ⟨0, by omega, rfl, HQ.out, HR.out, HKW.out, HB.out, fun p j d hp => by omega⟩
      case round =>
        clear HQ HR HKW HB
        obtain ⟨k, hk, rfl, hq, hr, hkw, hb, hprev⟩ := hrel
        have HQ := Lib.hid hq
        have HR := Lib.hid hr
        have HKW := Lib.hid hkw
        have HB := Lib.hid hb
        have HP := Lib.hid hprev
        clear hq hr hkw hb hprev
        by_cases hlt : k < js.length
        · obtain ⟨z, hz⟩ : ∃ z, js[k]? = some z := ⟨_, List.getElem?_eq_getElem hlt⟩
          obtain ⟨d, hd⟩ : ∃ d, DD[k]? = some d := ⟨_, List.getElem?_eq_getElem (by omega)⟩
          obtain ⟨b, off, rfl, hbb, hcj⟩ := HA.out.at_ HB.out hz
          obtain ⟨c0, c1⟩ := jb_cells hcj
          have hw := cur_new wr (.cells #[.int .i64 z.f, .int .i64 z.t] 43)
          have HW := Lib.hid hw
          have k1 : (wr.alloc (.cells #[.int .i64 z.f, .int .i64 z.t] 43)).cell? ⟨wr.heap.size, 1, none⟩ = some (.int .i64 z.t) := (Blk.new wr 43 [.int .i64 z.f, .int .i64 z.t]).cell 1
          have KD := Lib.hid (show (wr.alloc (.cells #[.int .i64 z.f, .int .i64 z.t] 43)).cell? ⟨G, k, none⟩ = some (.int .i64 (if d < 0 then 0 else d)) from ((HQ.out.to hw).cell k).trans (il_at (daysOf_at hd)))
          have KR := Lib.hid (show (wr.alloc (.cells #[.int .i64 z.f, .int .i64 z.t] 43)).cell? ⟨H, k, none⟩ = some (.bool (!decide (d < 0))) from ((HR.out.to hw).cell k).trans (bl_at (doneOf_at hd)))
          have HZ := Lib.hid hz
          have HDK := Lib.hid hd
          clear hcj hz hd hw
          cases hlate : lateJ (z, d) with
          | false =>
            have hl2 : ¬ d < 0 ∧ ¬ z.t < d := by unfold lateJ at hlate; simp at hlate; omega
            have kr : (wr.alloc (.cells #[.int .i64 z.f, .int .i64 z.t] 43)).cell? ⟨H, k, none⟩ = some (.bool true) := by rw [KR.out, decide_eq_false hl2.1]; rfl
            have kd : (wr.alloc (.cells #[.int .i64 z.f, .int .i64 z.t] 43)).cell? ⟨G, k, none⟩ = some (.int .i64 d) := by rw [KD.out, if_neg hl2.1]
            have g2 : decide (z.t < d) = false := decide_eq_false hl2.2
            have HNX := Lib.hid (show ∀ p j d', p < k + 1 → js[p]? = some j → DD[p]? = some d' → lateJ (j, d') = false from by
              intro p j d' hp hj hd'
              by_cases hpk : p = k
              · subst hpk
                rw [HZ.out] at hj
                rw [HDK.out] at hd'
                injection hj with hj
                injection hd' with hd'
                subst hj hd'
                exact hlate
              · exact HP.out p j d' (by omega) hj hd')
            clear hlate hl2
            go_wp2_with fail
            go_quiet (fail)
            go_wp2
            go_roundw
            case rel => exact ⟨k + 1, hlt, by simp, HQ.out.to (HW.out.trans ((cur_drew _ _).mono HW.out.size)), HR.out.to (HW.out.trans ((cur_drew _ _).mono HW.out.size)), HKW.out.to (HW.out.trans ((cur_drew _ _).mono HW.out.size)), cur_step1 HB.out (HW.out.trans ((cur_drew _ _).mono HW.out.size)), HNX.out⟩
            case measure => simp [intOf]; omega
          | true =>
            have HBAD := Lib.hid (show planOk js first caps = false from by unfold planOk; rw [HDD.out, late_at HZ.out HDK.out hlate]; rfl)
            have hl2 : d < 0 ∨ (¬ d < 0 ∧ z.t < d) := by unfold lateJ at hlate; simp at hlate; omega
            clear hlate
            rcases hl2 with hl2 | ⟨hl2, hl3⟩
            · have kr : (wr.alloc (.cells #[.int .i64 z.f, .int .i64 z.t] 43)).cell? ⟨H, k, none⟩ = some (.bool false) := by rw [KR.out, decide_eq_true hl2]; rfl
              have HBQ := Lib.hid (show ∀ n, Below w.heap.size w ((wr.alloc (.cells #[.int .i64 z.f, .int .i64 z.t] 43)).drewN n) from fun n => cur_step1 HB.out (HW.out.trans ((cur_drew _ _).mono HW.out.size)))
              have HKQ := Lib.hid (show ∀ n, Blk ((wr.alloc (.cells #[.int .i64 z.f, .int .i64 z.t] 43)).drewN n) w.heap.size 30 [.int .i64 0, .int .i64 0] from fun n => HKW.out.to (HW.out.trans ((cur_drew _ _).mono HW.out.size)))
              go_wp2_with fail
              go_quiet (fail)
              go_wp2_with (go_at_call 25; refine (tight_r _ _ _ _ _ _ _ _ hjl hcl (HA.out.to (HBQ.out _)) (HC.out.to (HBQ.out _))).mono ?_; rintro e w5 ⟨x, y, fl, rfl, htg, hb5⟩; have hw5 := cur_new w5 (.cells #[.int .i64 x, .int .i64 y] 30); have HTG := Lib.hid htg; have HB5 := Lib.hid (cur_step1 (cur_step1 (HBQ.out _) hb5) hw5); have HK5 := Lib.hid (((HKQ.out _).to hb5).to hw5); have HX5 := Lib.hid (Blk.new w5 30 [.int .i64 x, .int .i64 y]); have HL5 := HK5.out.lt; have hlt5 : w.heap.size < w5.heap.size := Nat.lt_of_lt_of_le (HKQ.out _).lt hb5.size; clear htg hb5 hw5)
              obtain ⟨w6, hw6⟩ : ∃ w6, w6 = w5.alloc (.cells #[.int .i64 x, .int .i64 y] 30) := ⟨_, rfl⟩
              rw [← hw6] at HK5 HX5 HB5 ⊢
              obtain ⟨gx, hgx⟩ : ∃ gx, gx = w5.heap.size := ⟨_, rfl⟩
              rw [← hgx] at HX5 hlt5 ⊢
              clear hw6 hgx HL5
              have z0 : w6.cell? ⟨w.heap.size, 0, none⟩ = some (.int .i64 0) := HK5.out.cell 0
              have z1 : w6.cell? ⟨w.heap.size, 1, none⟩ = some (.int .i64 0) := HK5.out.cell 1
              have f0 := HK5.out.frozen 0
              have f1 := HK5.out.frozen 1
              have u0 : w6.cell? ⟨gx, 0, none⟩ = some (.int .i64 x) := HX5.out.cell 0
              have u1 : w6.cell? ⟨gx, 1, none⟩ = some (.int .i64 y) := HX5.out.cell 1
              have HS5 := Lib.hid (HK5.out.set 0 (.int .i64 x))
              have z2 : (w6.setCell ⟨w.heap.size, 0, none⟩ (.int .i64 x)).cell? ⟨w.heap.size, 1, none⟩ = some (.int .i64 0) := HS5.out.cell 1
              have f2 := HS5.out.frozen 1
              go_region
              go_wp2
              refine ret_mid (g := w.heap.size) (xs := [.int .i64 x, .int .i64 y]) rfl rfl rfl rfl (HS5.out.set 1 (.int .i64 y)) Try.underlying30 rfl win_info rfl ?_
              exact ⟨_, _, _, _, rfl, .inr (.inr ⟨HCK.out, HBAD.out, rfl, HTG.out, rfl⟩), (below_set (below_set HB5.out (Nat.le_refl _) 0 _) (Nat.le_refl _) 1 _).drew⟩
            · have kr : (wr.alloc (.cells #[.int .i64 z.f, .int .i64 z.t] 43)).cell? ⟨H, k, none⟩ = some (.bool true) := by rw [KR.out, decide_eq_false hl2]; rfl
              have kd : (wr.alloc (.cells #[.int .i64 z.f, .int .i64 z.t] 43)).cell? ⟨G, k, none⟩ = some (.int .i64 d) := by rw [KD.out, if_neg hl2]
              have g2 : decide (z.t < d) = true := decide_eq_true hl3
              have HBQ := Lib.hid (show ∀ n, Below w.heap.size w ((wr.alloc (.cells #[.int .i64 z.f, .int .i64 z.t] 43)).drewN n) from fun n => cur_step1 HB.out (HW.out.trans ((cur_drew _ _).mono HW.out.size)))
              have HKQ := Lib.hid (show ∀ n, Blk ((wr.alloc (.cells #[.int .i64 z.f, .int .i64 z.t] 43)).drewN n) w.heap.size 30 [.int .i64 0, .int .i64 0] from fun n => HKW.out.to (HW.out.trans ((cur_drew _ _).mono HW.out.size)))
              go_wp2_with fail
              go_quiet (fail)
              go_wp2_with (go_at_call 25; refine (tight_r _ _ _ _ _ _ _ _ hjl hcl (HA.out.to (HBQ.out _)) (HC.out.to (HBQ.out _))).mono ?_; rintro e w5 ⟨x, y, fl, rfl, htg, hb5⟩; have hw5 := cur_new w5 (.cells #[.int .i64 x, .int .i64 y] 30); have HTG := Lib.hid htg; have HB5 := Lib.hid (cur_step1 (cur_step1 (HBQ.out _) hb5) hw5); have HK5 := Lib.hid (((HKQ.out _).to hb5).to hw5); have HX5 := Lib.hid (Blk.new w5 30 [.int .i64 x, .int .i64 y]); have HL5 := HK5.out.lt; have hlt5 : w.heap.size < w5.heap.size := Nat.lt_of_lt_of_le (HKQ.out _).lt hb5.size; clear htg hb5 hw5)
              obtain ⟨w6, hw6⟩ : ∃ w6, w6 = w5.alloc (.cells #[.int .i64 x, .int .i64 y] 30) := ⟨_, rfl⟩
              rw [← hw6] at HK5 HX5 HB5 ⊢
              obtain ⟨gx, hgx⟩ : ∃ gx, gx = w5.heap.size := ⟨_, rfl⟩
              rw [← hgx] at HX5 hlt5 ⊢
              clear hw6 hgx HL5
              have z0 : w6.cell? ⟨w.heap.size, 0, none⟩ = some (.int .i64 0) := HK5.out.cell 0
              have z1 : w6.cell? ⟨w.heap.size, 1, none⟩ = some (.int .i64 0) := HK5.out.cell 1
              have f0 := HK5.out.frozen 0
              have f1 := HK5.out.frozen 1
              have u0 : w6.cell? ⟨gx, 0, none⟩ = some (.int .i64 x) := HX5.out.cell 0
              have u1 : w6.cell? ⟨gx, 1, none⟩ = some (.int .i64 y) := HX5.out.cell 1
              have HS5 := Lib.hid (HK5.out.set 0 (.int .i64 x))
              have z2 : (w6.setCell ⟨w.heap.size, 0, none⟩ (.int .i64 x)).cell? ⟨w.heap.size, 1, none⟩ = some (.int .i64 0) := HS5.out.cell 1
              have f2 := HS5.out.frozen 1
              go_region
              go_wp2
              refine ret_mid (g := w.heap.size) (xs := [.int .i64 x, .int .i64 y]) rfl rfl rfl rfl (HS5.out.set 1 (.int .i64 y)) Try.underlying30 rfl win_info rfl ?_
              exact ⟨_, _, _, _, rfl, .inr (.inr ⟨HCK.out, HBAD.out, rfl, HTG.out, rfl⟩), (below_set (below_set HB5.out (Nat.le_refl _) 0 _) (Nat.le_refl _) 1 _).drew⟩
        · have HOKK := Lib.hid (show planOk js first caps = true from by unfold planOk; rw [HDD.out, late_none (fun p j d hp => HP.out p j d (by omega))]; rfl)
          have kw := HKW.out
          have z0 : wr.cell? ⟨w.heap.size, 0, none⟩ = some (.int .i64 0) := kw.cell 0
          have z1 : wr.cell? ⟨w.heap.size, 1, none⟩ = some (.int .i64 0) := kw.cell 1
          have f0 := kw.frozen 0
          have f1 := kw.frozen 1
          clear kw
          go_wp2_with fail
          refine ret_mid (g := w.heap.size) (xs := [.int .i64 0, .int .i64 0]) rfl rfl rfl rfl ((HKW.out.set 0 (.int .i64 0)).set 1 (.int .i64 0)) Try.underlying30 rfl win_info rfl ?_
          refine ⟨_, _, _, _, rfl, .inr (.inl ⟨HCK.out, HOKK.out, ⟨G, js.length, rfl, by omega, ?_⟩, rfl, rfl, rfl⟩), below_set (below_set HB.out (Nat.le_refl _) 0 _) (Nat.le_refl _) 1 _⟩
          rw [HDD.out]
          have hid := days_id hDl (fun p j d hp => HP.out p j d (by omega))
          rw [hid] at HQ
          exact il_rd ((HQ.out.other (by omega) 0 _).other (by omega) 1 _)
theorem plan_r (A C : Option Addr) (jc cc : Nat) (js : List Jb) (caps : List Int) (first : Int) (w : World) (hjl : js.length ≤ 4000000) (hcl : caps.length ≤ 4000000) (hra : Rd jbE 2 w w.heap.size A js) (hrc : Rd inE 1 w w.heap.size C caps) : Calls Try.prog 10 #[.slice A js.length jc, .int .i64 first, .slice C caps.length cc] w fun e w' => ∃ v x y err, e = .returned (.tuple #[v, .agg #[.int .i64 x, .int .i64 y], .int .i64 err]) ∧ PlanS w.heap.size js first caps v x y err w' ∧ Below w.heap.size w w' := by
  by_cases hck : ckT js first caps = 0
  · have hf := ckT_facts hck
    exact planr_ok A C jc cc js caps first w hck hf.1 hf.2.1 hra hrc
  · have HA2 := Lib.hid (hra.to (cur_new w (.cells #[.int .i64 0, .int .i64 0] 30)))
    have HC2 := Lib.hid (hrc.to (cur_new w (.cells #[.int .i64 0, .int .i64 0] 30)))
    have HKW := Lib.hid (Blk.new w 30 [.int .i64 0, .int .i64 0])
    obtain ⟨er, her⟩ : ∃ er, ckT js first caps = er := ⟨_, rfl⟩
    have hne : er ≠ 0 := by rw [← her]; exact hck
    have HER := Lib.hid her
    clear hra hrc hck her
    go_enter Try.func10, Try.ntmps10
    go_wp2_with (go_at_call 12; refine (check_r _ _ _ _ _ _ _ _ hjl hcl HA2.out HC2.out).mono ?_; rintro e w1 ⟨rfl, hb⟩; rw [HER.out]; have HB := Lib.hid (cur_step0 hb); have HK5 := Lib.hid (HKW.out.to hb); clear hb; have z0 : w1.cell? ⟨w.heap.size, 0, none⟩ = some (.int .i64 0) := HK5.out.cell 0; have z1 : w1.cell? ⟨w.heap.size, 1, none⟩ = some (.int .i64 0) := HK5.out.cell 1; have f0 := HK5.out.frozen 0; have f1 := HK5.out.frozen 1)
    refine ret_mid (g := w.heap.size) (xs := [.int .i64 0, .int .i64 0]) rfl rfl rfl rfl ((HK5.out.set 0 (.int .i64 0)).set 1 (.int .i64 0)) Try.underlying30 rfl win_info rfl ?_
    exact ⟨_, _, _, _, rfl, .inl ⟨by rw [HER.out]; exact hne, rfl, rfl, rfl, HER.out.symm⟩, below_set (below_set HB.out (Nat.le_refl _) 0 _) (Nat.le_refl _) 1 _⟩
end Go.Proofs.Ytnbhplhhemkniaa
