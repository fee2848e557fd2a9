/-
  Chapter 50: Plan of the program.
-/
import Derived.Test.YtnbhplhhemkniaaNar50
namespace Go.Proofs.Ytnbhplhhemkniaa
open Go.RowKit
set_option maxRecDepth 100000
set_option maxHeartbeats 4000000
def il (l : List Int) : List Value := l.map (Value.int .i64)
theorem il_fn (n : Nat) (x : Int) : fn n (fun _ => Value.int .i64 x) = il (List.replicate n x) := by
  rw [← fn_rep]
  simp [il]
theorem il_at {l : List Int} {k : Nat} {x : Int} (h : l[k]? = some x) : (il l)[k]? = some (.int .i64 x) := by unfold il; rw [List.getElem?_map, h]; rfl
theorem il_set (l : List Int) (k : Nat) (x : Int) : (il l).set k (.int .i64 x) = il (l.set k x) := by unfold il; rw [List.map_set]
theorem il_rd {w : World} {g : Nat} {e : TypeId} {l : List Int} (h : Blk w g e (il l)) : Rd inE 1 w w.heap.size (some ⟨g, 0, none⟩) l := by
  intro k x hx
  refine ⟨g, 0, rfl, h.lt, fun j u hu => ?_⟩
  have hj : j = 0 ∧ u = .int .i64 x := by
    cases j with
    | zero => simp [inE] at hu; exact ⟨rfl, hu.symm⟩
    | succ j => simp [inE] at hu
  obtain ⟨rfl, rfl⟩ := hj
  have := h.cell k
  rw [il_at hx] at this
  simpa using this
def fillL (n k : Nat) : List Int := List.replicate k (-1) ++ List.replicate (n - k) 0
theorem fillL_at {n k : Nat} (h : k < n) : (fillL n k)[k]? = some 0 := by
  unfold fillL
  rw [List.getElem?_append_right (by simp), List.length_replicate, Nat.sub_self, List.getElem?_replicate, if_pos (by omega)]
theorem fillL_set {n k : Nat} (h : k < n) : (fillL n k).set k (-1) = fillL n (k + 1) := by
  unfold fillL
  rw [List.set_append_right _ _ (by simp), List.length_replicate, Nat.sub_self, show n - k = (n - (k + 1)) + 1 by omega, List.replicate_succ, List.set_cons_zero, List.replicate_succ', List.append_assoc]
  rfl
def FillR (n : Nat) (w : World) (G : Nat) (K : List Value) (gk : Nat) (i : Value) (wr : World) : Prop := ∃ k : Nat, k ≤ n ∧ i = .int .i64 k ∧ Blk wr G 2 (il (fillL n k)) ∧ Blk wr gk 30 K ∧ Below w.heap.size w wr
theorem fillL_full (n : Nat) : fillL n n = List.replicate n (-1) := by unfold fillL; simp
def CapsR (js : List Jb) (first : Int) (caps : List Int) (w : World) (G : Nat) (i : Value) (wr : World) : Prop := ∃ k : Nat, k ≤ caps.length ∧ i = .int .i64 k ∧ Blk wr G 2 (il (planF js first (caps.take k) (List.replicate js.length (-1)))) ∧ Blk wr w.heap.size 30 [.int .i64 0, .int .i64 0] ∧ Below w.heap.size w wr
def InR (js : List Jb) (day : Int) (D0 : List Int) (c : Int) (w : World) (G : Nat) (i : Value) (wr : World) : Prop := ∃ m : Nat, m ≤ c.toNat ∧ i = .int .i64 m ∧ Blk wr G 2 (il (iterD js day m D0)) ∧ Blk wr w.heap.size 30 [.int .i64 0, .int .i64 0] ∧ Below w.heap.size w wr
theorem ret_mid {P : Program} {fn : Func} {R : Ending → World → Prop} {a : Act} {w : World} {o p q : Tmp} {ty : TypeId} {g : Nat} {e : TypeId} {xs : List Value} {d : TypeDesc} {u v : Value} (h : fn.results = #[.tmp o, .cell p ty, .tmp q])
    (ho : a.tmps.getD o undef = v) (hp : a.tmps.getD p undef = .pointer (some ⟨g, 0, none⟩)) (hq : a.tmps.getD q undef = u) (hg : Blk w g e xs) (hu : P.underlying ty = some d) (hd : (match d with | .struct _ | .array _ _ => true | _ => false) = true) (hi : (P.info? ty).map (·.size) = some xs.length)
    (hdf : a.defers = []) (hR : R (.returned (.tuple #[v, .agg xs.toArray, u])) w) : bodyPost P fn R .ret a w := by
  refine ⟨hdf, _, ?_, hR⟩
  have hl := run_loadVar_row (P := P) w g e ty xs.toArray (0, 0) d hg hu hd (by simpa using hi)
  have ho' : a.tmps[o]?.getD undef = v := by simpa using ho
  have hp' : a.tmps[p]?.getD undef = .pointer (some ⟨g, 0, none⟩) := by simpa using hp
  have hq' : a.tmps[q]?.getD undef = u := by simpa using hq
  simp [results, h, ho', hp', hq', asAddr, hl]
def PlanS (B : Nat) (js : List Jb) (first : Int) (caps : List Int) (v : Value) (x y err : Int) (w' : World) : Prop :=
  (ckT js first caps ≠ 0 ∧ v = .slice none 0 0 ∧ x = 0 ∧ y = 0 ∧ err = ckT js first caps) ∨
  (ckT js first caps = 0 ∧ planOk js first caps = true ∧ (∃ g c', v = .slice (some ⟨g, 0, none⟩) js.length c' ∧ B ≤ g ∧ Rd inE 1 w' w'.heap.size (some ⟨g, 0, none⟩) (planD js first caps)) ∧ x = 0 ∧ y = 0 ∧ err = 0) ∨
  (ckT js first caps = 0 ∧ planOk js first caps = false ∧ v = .slice none 0 0 ∧ IsTight js first caps x y ∧ err = 13)
def LastR (js : List Jb) (DD : List Int) (w : World) (G : Nat) (i : Value) (wr : World) : Prop := ∃ k : Nat, k ≤ js.length ∧ i = .int .i64 k ∧ Blk wr G 2 (il DD) ∧ Blk wr w.heap.size 30 [.int .i64 0, .int .i64 0] ∧ Below w.heap.size w wr ∧
  (∀ p j d, p < k → js[p]? = some j → DD[p]? = some d → lateJ (j, d) = false)
theorem late_at {js : List Jb} {ds : List Int} {k : Nat} {j : Jb} {d : Int} (hj : js[k]? = some j) (hd : ds[k]? = some d) (h : lateJ (j, d) = true) : (js.zip ds).any lateJ = true := by
  rw [List.any_eq_true]
  refine ⟨(j, d), ?_, h⟩
  have : (js.zip ds)[k]? = some (j, d) := by rw [List.getElem?_zip_eq_some]; exact ⟨hj, hd⟩
  exact List.mem_of_getElem? this
theorem late_none {js : List Jb} {ds : List Int} (h : ∀ p j d, p < js.length → js[p]? = some j → ds[p]? = some d → lateJ (j, d) = false) : (js.zip ds).any lateJ = false := by
  rw [Bool.eq_false_iff]
  intro hh
  obtain ⟨⟨j, d⟩, hm, hlate⟩ := List.any_eq_true.1 hh
  obtain ⟨p, hp⟩ := List.getElem?_of_mem hm
  rw [List.getElem?_zip_eq_some] at hp
  rw [h p j d (List.getElem?_eq_some_iff.1 hp.1).1 hp.1 hp.2] at hlate
  cases hlate
theorem plan_ok (A C : Option Addr) (jc cc : Nat) (js : List Jb) (caps : List Int) (first : Int) (w : World) (hck : ckT js first caps = 0) (hjl : js.length ≤ 400) (hcl : caps.length ≤ 400) (hra : Rd jbE 2 w w.heap.size A js) (hrc : Rd inE 1 w w.heap.size C caps) : Calls Try.prog 9 #[.slice A js.length jc, .int .i64 first, .slice C caps.length cc] w fun e w' => ∃ v x y err, e = .returned (.tuple #[v, .agg #[.int .i64 x, .int .i64 y], .int .i64 err]) ∧ PlanS w.heap.size js first caps v x y err w' ∧ Below w.heap.size w w' := by
  have HA := Lib.hid hra
  have HC := Lib.hid hrc
  have HCK := Lib.hid hck
  have HF := Lib.hid (ckT_facts hck)
  clear hra hrc hck
  have HA2 := Lib.hid (HA.out.to (cur_new w (.cells #[.int .i64 0, .int .i64 0] 30)))
  have HC2 := Lib.hid (HC.out.to (cur_new w (.cells #[.int .i64 0, .int .i64 0] 30)))
  have HKW := Lib.hid (Blk.new w 30 [.int .i64 0, .int .i64 0])
  go_enter Try.func9, Try.ntmps9
  go_wp2_with (first
    | (go_at_call 11; refine (check_p _ _ _ _ _ _ _ _ (by omega) (by omega) HA2.out HC2.out).mono ?_; rintro e w1 ⟨rfl, hb⟩; rw [HCK.out]; have HB := Lib.hid (cur_step0 hb); have HKW1 := Lib.hid (HKW.out.to hb); clear hb)
    | (refine wpList_makeN _ rfl _ _ _ rfl 2 (.int .i64 0) 8 (by kernel_rfl) (by kernel_rfl) (by kernel_rfl) .i64 .i64 js.length (by rfl) (by rfl) (by omega) (by unfold maxLen; omega) ?_; intro w3 hq hb3; have HB3 := Lib.hid (cur_step1 HB.out hb3); have HKW3 := Lib.hid (HKW1.out.to hb3); have HQ := Lib.hid hq; clear hq hb3))
  obtain ⟨G, hG⟩ : ∃ G, G = w1.heap.size := ⟨_, rfl⟩
  have hGw : w.heap.size < G := by rw [hG]; exact HKW1.out.lt
  rw [← hG, il_fn] at HQ
  rw [← hG]
  clear hG
  go_loopw [31] (FillR js.length w G [.int .i64 0, .int .i64 0] w.heap.size) (fun i _ => js.length - (intOf i).toNat)
  case atStart => exact ⟨0, by omega, rfl, by simpa [fillL] using HQ.out, HKW3.out, HB3.out⟩
  case round =>
    clear HQ HB3 HKW3
    obtain ⟨k, hk, rfl, hq, hkw, hb⟩ := hrel
    have HQ := Lib.hid hq
    have HKW := Lib.hid hkw
    have HB := Lib.hid hb
    by_cases hlt : k < js.length
    · have cf : wr.cell? ⟨G, k, none⟩ = some (.int .i64 0) := (hq.cell k).trans (il_at (fillL_at hlt))
      have ff := hq.frozen k
      have HQ2 := Lib.hid (show Blk (wr.setCell ⟨G, k, none⟩ (.int .i64 (-1))) G 2 (il (fillL js.length (k + 1))) by have := hq.set k (.int .i64 (-1)); rwa [il_set, fillL_set hlt] at this)
      have HKW2 := Lib.hid (hkw.other (g' := G) (by omega) k (.int .i64 (-1)))
      have HB2 := Lib.hid (below_set hb (show w.heap.size ≤ G by omega) k (.int .i64 (-1)))
      clear hq hkw hb
      go_wp2_with fail
      go_roundw
      case rel => exact ⟨k + 1, hlt, by simp, HQ2.out, HKW2.out, HB2.out⟩
      case measure => simp [intOf]; omega
    · have hke : k = js.length := by omega
      subst hke
      clear hq hkw hb
      go_wp2_with fail
      go_loopw [40] (CapsR js first caps w G) (fun i _ => caps.length - (intOf i).toNat)
      case atStart => exact ⟨0, by omega, rfl, by have := HQ.out; rwa [fillL_full] at this, HKW.out, HB.out⟩
      case round =>
        clear HQ HKW HB
        obtain ⟨k, hk, rfl, hq, hkw, hb⟩ := hrel
        have HQ := Lib.hid hq
        have HKW := Lib.hid hkw
        have HB := Lib.hid hb
        clear hq hkw hb
        by_cases hlt : k < caps.length
        · obtain ⟨c, hc⟩ : ∃ c, caps[k]? = some c := ⟨_, List.getElem?_eq_getElem hlt⟩
          obtain ⟨b, off, rfl, hbb, hcc⟩ := HC.out.at_ HB.out hc
          have cc0 := in_cell hcc
          obtain ⟨D0, hD0⟩ : ∃ D0, planF js first (caps.take k) (List.replicate js.length (-1)) = D0 := ⟨_, rfl⟩
          have hD0l : D0.length = js.length := by rw [← hD0, planF_len]; simp
          have HPT := Lib.hid (show planF js first (caps.take (k + 1)) (List.replicate js.length (-1)) = iterD js (first + k) c.toNat D0 by rw [planF_take hc, hD0])
          have hcr : 0 ≤ c ∧ c ≤ 20 := by
            have := List.all_eq_true.1 HF.out.2.2.2.2.1 c (List.mem_of_getElem? hc)
            unfold capOk at this; simpa using this
          obtain ⟨hc0, hc20⟩ := hcr
          rw [hD0] at HQ
          have hf0 := HF.out.2.2.1
          have hf1 := HF.out.2.2.2.1
          clear hcc hc hD0
          go_wp2_with fail
          go_loopw [49] (InR js (first + k) D0 c w G) (fun i _ => c.toNat - (intOf i).toNat)
          case atStart => exact ⟨0, by omega, rfl, HQ.out, HKW.out, HB.out⟩
          case round =>
            clear HQ HKW HB cc0
            obtain ⟨m, hm, rfl, hq, hkw, hb⟩ := hrel
            have hDl : (iterD js (first + k) m D0).length = js.length := by rw [iterD_len, hD0l]
            have HIT := Lib.hid (show iterD js (first + k) (m + 1) D0 = stepD js (first + k) (iterD js (first + k) m D0) from rfl)
            have HQ := Lib.hid hq
            have HKW := Lib.hid hkw
            have HB := Lib.hid hb
            clear hq hkw hb
            by_cases hltm : (m : Int) < c
            · obtain ⟨D, hD⟩ : ∃ D, iterD js (first + k) m D0 = D := ⟨_, rfl⟩
              have HD := Lib.hid hD
              rw [hD] at HQ hDl HIT
              clear hD
              cases hbn : bestN js D (first + k) js.length with
              | none =>
                have HBN := Lib.hid hbn
                have HSTOP := Lib.hid (show iterD js (first + k) c.toNat D0 = D from by
                  have := iter_stop (js := js) (day := first + k) (ds := D0) (m := m) (by rw [HD.out]; exact hbn) (c.toNat - m)
                  rw [show m + (c.toNat - m) = c.toNat by omega] at this
                  rw [this, HD.out])
                clear hbn
                go_wp2_with (go_at_call 22; refine (next_p _ _ _ _ js D _ _ hjl hDl (HA.out.to HB.out) (il_rd HQ.out)).mono ?_; rintro e w4 ⟨rfl, hb4⟩; rw [HBN.out]; have HB4 := Lib.hid (cur_step1 HB.out hb4); have HQ4 := Lib.hid (HQ.out.to hb4); have HKW4 := Lib.hid (HKW.out.to hb4); clear hb4; unfold bestV)
                exact ⟨⟨k + 1, hlt, by simp, by rw [HPT.out, HSTOP.out]; exact HQ4.out, HKW4.out, HB4.out⟩, by simp [intOf]; omega⟩
              | some q =>
                have hql := (bestN_lt hbn).2
                have HBN := Lib.hid hbn
                have HST := Lib.hid (show iterD js (first + k) (m + 1) D0 = D.set q (first + k) from by rw [HIT.out]; unfold stepD; rw [hbn])
                obtain ⟨dv, hdv⟩ : ∃ dv, D[q]? = some dv := ⟨_, List.getElem?_eq_getElem (by omega)⟩
                have HDV := Lib.hid (il_at hdv)
                clear hbn hdv
                go_wp2_with (go_at_call 22; refine (next_p _ _ _ _ js D _ _ hjl hDl (HA.out.to HB.out) (il_rd HQ.out)).mono ?_; rintro e w4 ⟨rfl, hb4⟩; rw [HBN.out]; have HB4 := Lib.hid (cur_step1 HB.out hb4); have HQ4 := Lib.hid (HQ.out.to hb4); have HKW4 := Lib.hid (HKW.out.to hb4); clear hb4; unfold bestV; have cq : w4.cell? ⟨G, q, none⟩ = some (.int .i64 dv) := (HQ4.out.cell q).trans HDV.out; have fq := HQ4.out.frozen q)
                exact ⟨⟨m + 1, by omega, by simp, by rw [HST.out, ← il_set]; exact HQ4.out.set q _, HKW4.out.other (by omega) q _, below_set HB4.out (by omega) q _⟩, by simp [intOf]; omega⟩
            · have hme : m = c.toNat := by omega
              rw [hme] at HQ
              clear hme
              go_wp2_with fail
              exact ⟨⟨k + 1, hlt, by simp, by rw [HPT.out]; exact HQ.out, HKW.out, HB.out⟩, by simp [intOf]; omega⟩
        · have hke : k = caps.length := by omega
          subst hke
          rw [List.take_length] at HQ
          obtain ⟨DD, hDD⟩ : ∃ DD, planD js first caps = DD := ⟨_, rfl⟩
          have hDl : DD.length = js.length := by rw [← hDD]; unfold planD; rw [planF_len]; simp
          have HDD := Lib.hid hDD
          rw [show planF js first caps (List.replicate js.length (-1)) = DD from hDD] at HQ
          clear hDD
          go_wp2_with fail
          go_loopw [65] (LastR js DD w G) (fun i _ => js.length - (intOf i).toNat)
          case atStart => exact ⟨0, by omega, rfl, HQ.out, HKW.out, HB.out, fun p j d hp => by omega⟩
          case round =>
            clear HQ HKW HB
            obtain ⟨k, hk, rfl, hq, hkw, hb, hprev⟩ := hrel
            have HQ := Lib.hid hq
            have HKW := Lib.hid hkw
            have HB := Lib.hid hb
            have HP := Lib.hid hprev
            clear hq hkw hb hprev
            by_cases hlt : k < js.length
            · obtain ⟨z, hz⟩ : ∃ z, js[k]? = some z := ⟨_, List.getElem?_eq_getElem hlt⟩
              obtain ⟨d, hd⟩ : ∃ d, DD[k]? = some d := ⟨_, List.getElem?_eq_getElem (by omega)⟩
              obtain ⟨b, off, rfl, hbb, hcj⟩ := HA.out.at_ HB.out hz
              obtain ⟨c0, c1⟩ := jb_cells hcj
              have hw := cur_new wr (.cells #[.int .i64 z.f, .int .i64 z.t] 43)
              have HW := Lib.hid hw
              have k1 : (wr.alloc (.cells #[.int .i64 z.f, .int .i64 z.t] 43)).cell? ⟨wr.heap.size, 1, none⟩ = some (.int .i64 z.t) := (Blk.new wr 43 [.int .i64 z.f, .int .i64 z.t]).cell 1
              have kd : (wr.alloc (.cells #[.int .i64 z.f, .int .i64 z.t] 43)).cell? ⟨G, k, none⟩ = some (.int .i64 d) := ((HQ.out.to hw).cell k).trans (il_at hd)
              have HZ := Lib.hid hz
              have HDK := Lib.hid hd
              clear hcj hz hd hw
              cases hlate : lateJ (z, d) with
              | false =>
                have hl2 : ¬ d < 0 ∧ ¬ z.t < d := by unfold lateJ at hlate; simp at hlate; omega
                have g1 : decide (d < 0) = false := decide_eq_false hl2.1
                have g2 : decide (z.t < d) = false := decide_eq_false hl2.2
                have HNX := Lib.hid (show ∀ p j d', p < k + 1 → js[p]? = some j → DD[p]? = some d' → lateJ (j, d') = false from by
                  intro p j d' hp hj hd'
                  by_cases hpk : p = k
                  · subst hpk
                    rw [HZ.out] at hj
                    rw [HDK.out] at hd'
                    injection hj with hj
                    injection hd' with hd'
                    subst hj hd'
                    exact hlate
                  · exact HP.out p j d' (by omega) hj hd')
                clear hlate hl2
                go_wp2_with fail
                go_quiet (fail)
                go_wp2
                go_roundw
                case rel => exact ⟨k + 1, hlt, by simp, HQ.out.to (HW.out.trans ((cur_drew _ _).mono HW.out.size)), HKW.out.to (HW.out.trans ((cur_drew _ _).mono HW.out.size)), cur_step1 HB.out (HW.out.trans ((cur_drew _ _).mono HW.out.size)), HNX.out⟩
                case measure => simp [intOf]; omega
              | true =>
                have HBAD := Lib.hid (show planOk js first caps = false from by unfold planOk; rw [HDD.out, late_at HZ.out HDK.out hlate]; rfl)
                have hl2 : d < 0 ∨ (¬ d < 0 ∧ z.t < d) := by unfold lateJ at hlate; simp at hlate; omega
                clear hlate
                rcases hl2 with hl2 | ⟨hl2, hl3⟩
                · have g1 : decide (d < 0) = true := decide_eq_true hl2
                  have HBQ := Lib.hid (show ∀ n, Below w.heap.size w ((wr.alloc (.cells #[.int .i64 z.f, .int .i64 z.t] 43)).drewN n) from fun n => cur_step1 HB.out (HW.out.trans ((cur_drew _ _).mono HW.out.size)))
                  have HKQ := Lib.hid (show ∀ n, Blk ((wr.alloc (.cells #[.int .i64 z.f, .int .i64 z.t] 43)).drewN n) w.heap.size 30 [.int .i64 0, .int .i64 0] from fun n => HKW.out.to (HW.out.trans ((cur_drew _ _).mono HW.out.size)))
                  go_wp2_with fail
                  go_quiet (fail)
                  go_wp2_with (go_at_call 23; refine (narrow_p _ _ _ _ _ _ _ _ hjl hcl (by omega) HCK.out (HA.out.to (HBQ.out _)) (HC.out.to (HBQ.out _))).mono ?_; rintro e w5 ⟨x, y, rfl, htg, hb5⟩; have HTG := Lib.hid htg; have HB5 := Lib.hid (cur_step1 (HBQ.out _) hb5); have HK5 := Lib.hid ((HKQ.out _).to hb5); clear htg hb5; have z0 : w5.cell? ⟨w.heap.size, 0, none⟩ = some (.int .i64 0) := HK5.out.cell 0; have z1 : w5.cell? ⟨w.heap.size, 1, none⟩ = some (.int .i64 0) := HK5.out.cell 1; have f0 := HK5.out.frozen 0; have f1 := HK5.out.frozen 1)
                  refine ret_mid (g := w.heap.size) (xs := [.int .i64 x, .int .i64 y]) rfl rfl rfl rfl ((HK5.out.set 0 (.int .i64 x)).set 1 (.int .i64 y)) Try.underlying30 rfl win_info rfl ?_
                  exact ⟨_, _, _, _, rfl, .inr (.inr ⟨HCK.out, HBAD.out, rfl, HTG.out, rfl⟩), below_set (below_set HB5.out (Nat.le_refl _) 0 _) (Nat.le_refl _) 1 _⟩
                · have g1 : decide (d < 0) = false := decide_eq_false hl2
                  have g2 : decide (z.t < d) = true := decide_eq_true hl3
                  have HBQ := Lib.hid (show ∀ n, Below w.heap.size w ((wr.alloc (.cells #[.int .i64 z.f, .int .i64 z.t] 43)).drewN n) from fun n => cur_step1 HB.out (HW.out.trans ((cur_drew _ _).mono HW.out.size)))
                  have HKQ := Lib.hid (show ∀ n, Blk ((wr.alloc (.cells #[.int .i64 z.f, .int .i64 z.t] 43)).drewN n) w.heap.size 30 [.int .i64 0, .int .i64 0] from fun n => HKW.out.to (HW.out.trans ((cur_drew _ _).mono HW.out.size)))
                  go_wp2_with fail
                  go_quiet (fail)
                  go_wp2_with (go_at_call 23; refine (narrow_p _ _ _ _ _ _ _ _ hjl hcl (by omega) HCK.out (HA.out.to (HBQ.out _)) (HC.out.to (HBQ.out _))).mono ?_; rintro e w5 ⟨x, y, rfl, htg, hb5⟩; have HTG := Lib.hid htg; have HB5 := Lib.hid (cur_step1 (HBQ.out _) hb5); have HK5 := Lib.hid ((HKQ.out _).to hb5); clear htg hb5; have z0 : w5.cell? ⟨w.heap.size, 0, none⟩ = some (.int .i64 0) := HK5.out.cell 0; have z1 : w5.cell? ⟨w.heap.size, 1, none⟩ = some (.int .i64 0) := HK5.out.cell 1; have f0 := HK5.out.frozen 0; have f1 := HK5.out.frozen 1)
                  refine ret_mid (g := w.heap.size) (xs := [.int .i64 x, .int .i64 y]) rfl rfl rfl rfl ((HK5.out.set 0 (.int .i64 x)).set 1 (.int .i64 y)) Try.underlying30 rfl win_info rfl ?_
                  exact ⟨_, _, _, _, rfl, .inr (.inr ⟨HCK.out, HBAD.out, rfl, HTG.out, rfl⟩), below_set (below_set HB5.out (Nat.le_refl _) 0 _) (Nat.le_refl _) 1 _⟩
            · have HOKK := Lib.hid (show planOk js first caps = true from by unfold planOk; rw [HDD.out, late_none (fun p j d hp => HP.out p j d (by omega))]; rfl)
              have kw := HKW.out
              have z0 : wr.cell? ⟨w.heap.size, 0, none⟩ = some (.int .i64 0) := kw.cell 0
              have z1 : wr.cell? ⟨w.heap.size, 1, none⟩ = some (.int .i64 0) := kw.cell 1
              have f0 := kw.frozen 0
              have f1 := kw.frozen 1
              clear kw
              go_wp2_with fail
              refine ret_mid (g := w.heap.size) (xs := [.int .i64 0, .int .i64 0]) rfl rfl rfl rfl ((HKW.out.set 0 (.int .i64 0)).set 1 (.int .i64 0)) Try.underlying30 rfl win_info rfl ?_
              refine ⟨_, _, _, _, rfl, .inr (.inl ⟨HCK.out, HOKK.out, ⟨G, js.length, rfl, by omega, ?_⟩, rfl, rfl, rfl⟩), below_set (below_set HB.out (Nat.le_refl _) 0 _) (Nat.le_refl _) 1 _⟩
              rw [HDD.out]
              exact il_rd ((HQ.out.other (by omega) 0 _).other (by omega) 1 _)
theorem plan_p (A C : Option Addr) (jc cc : Nat) (js : List Jb) (caps : List Int) (first : Int) (w : World) (hjl : js.length ≤ 4000000) (hcl : caps.length ≤ 4000000) (hra : Rd jbE 2 w w.heap.size A js) (hrc : Rd inE 1 w w.heap.size C caps) : Calls Try.prog 9 #[.slice A js.length jc, .int .i64 first, .slice C caps.length cc] w fun e w' => ∃ v x y err, e = .returned (.tuple #[v, .agg #[.int .i64 x, .int .i64 y], .int .i64 err]) ∧ PlanS w.heap.size js first caps v x y err w' ∧ Below w.heap.size w w' := by
  by_cases hck : ckT js first caps = 0
  · have hf := ckT_facts hck
    exact plan_ok A C jc cc js caps first w hck hf.1 hf.2.1 hra hrc
  · have HA2 := Lib.hid (hra.to (cur_new w (.cells #[.int .i64 0, .int .i64 0] 30)))
    have HC2 := Lib.hid (hrc.to (cur_new w (.cells #[.int .i64 0, .int .i64 0] 30)))
    have HKW := Lib.hid (Blk.new w 30 [.int .i64 0, .int .i64 0])
    obtain ⟨er, her⟩ : ∃ er, ckT js first caps = er := ⟨_, rfl⟩
    have hne : er ≠ 0 := by rw [← her]; exact hck
    have HER := Lib.hid her
    clear hra hrc hck her
    go_enter Try.func9, Try.ntmps9
    go_wp2_with (go_at_call 11; refine (check_p _ _ _ _ _ _ _ _ hjl hcl HA2.out HC2.out).mono ?_; rintro e w1 ⟨rfl, hb⟩; rw [HER.out]; have HB := Lib.hid (cur_step0 hb); have HK5 := Lib.hid (HKW.out.to hb); clear hb; have z0 : w1.cell? ⟨w.heap.size, 0, none⟩ = some (.int .i64 0) := HK5.out.cell 0; have z1 : w1.cell? ⟨w.heap.size, 1, none⟩ = some (.int .i64 0) := HK5.out.cell 1; have f0 := HK5.out.frozen 0; have f1 := HK5.out.frozen 1)
    refine ret_mid (g := w.heap.size) (xs := [.int .i64 0, .int .i64 0]) rfl rfl rfl rfl ((HK5.out.set 0 (.int .i64 0)).set 1 (.int .i64 0)) Try.underlying30 rfl win_info rfl ?_
    exact ⟨_, _, _, _, rfl, .inl ⟨by rw [HER.out]; exact hne, rfl, rfl, rfl, HER.out.symm⟩, below_set (below_set HB.out (Nat.le_refl _) 0 _) (Nat.le_refl _) 1 _⟩
end Go.Proofs.Ytnbhplhhemkniaa
