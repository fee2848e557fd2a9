/-
  Chapter 56: Check of the program.
-/
import Derived.Test.YtpninpohligomaaGreatDoorMap56
import Derived.Deep.RegionHeld3
set_option linter.unusedSimpArgs false
set_option linter.unusedVariables false
namespace Go.Proofs.YtpninpohligomaaGreatDoor
open Go.RowKit
set_option maxRecDepth 100000
set_option maxHeartbeats 1000000
def idsO (l : List Of) (k : Nat) : List Int := (l.take k).map (·.id)
theorem ids_seen (l : List Of) (k : Nat) (x : Int) : ((idsO l k).any fun y => y == x) = seenO l k x := by
  unfold idsO seenO
  rw [List.any_map]
  rfl
theorem ids_snoc {l : List Of} {k : Nat} {z : Of} (h : l[k]? = some z) : idsO l (k + 1) = idsO l k ++ [z.id] := by
  unfold idsO
  rw [List.take_add_one, h]
  simp
theorem oErr_at {l : List Of} {k : Nat} {z : Of} (h : l[k]? = some z) : oErr l k = errO l k z := by simp [oErr, h]
theorem ckO_of {l : List Of} {k : Nat} (hl : l.length ≤ 2000) (hno : ∀ j, j < k → oErr l j = 0) (hk : k < l.length) (he : oErr l k ≠ 0) : ckO l = oErr l k := by
  unfold ckO
  rw [if_neg (by omega), scan_some hno he hk]
  rfl
theorem ckO_end {l : List Of} (hl : l.length ≤ 2000) (hno : ∀ j, j < l.length → oErr l j = 0) : ckO l = 0 := by
  unfold ckO
  rw [if_neg (by omega), scan_none hno]
  rfl
theorem ord_p (a b : Of) : decide (0 ≤ (if cmpI a.d b.d = 0 then cmpI a.id b.id else cmpI a.d b.d)) = badP a b := by
  unfold badP cmpI
  by_cases h1 : a.d < b.d
  · have e1 : decide (b.d < a.d) = false := decide_eq_false (by omega)
    have e2 : decide (b.d = a.d) = false := decide_eq_false (by omega)
    simp [h1, e1, e2]
  · by_cases h2 : b.d < a.d
    · simp [h1, h2]
    · have e2 : decide (b.d = a.d) = true := decide_eq_true (by omega)
      simp only [h1, h2, e2]
      by_cases h3 : a.id < b.id
      · first | (simp [h3]; done) | (simp [h3]; omega)
      · by_cases h4 : b.id < a.id
        · first | (simp [h3, h4]; done) | (simp [h3, h4]; omega)
        · first | (simp [h3, h4]; done) | (simp [h3, h4]; omega)
def CkR (w : World) (l : List Of) (i : Value) (wr : World) : Prop := ∃ k : Nat, k ≤ l.length ∧ i = .int .i64 k ∧ (∀ j, j < k → oErr l j = 0) ∧ IdsM wr w.heap.size k (idsO l k) ∧ Below w.heap.size w wr
theorem ck_p (A : Option Addr) (c : Nat) (l : List Of) (r : Int) (w : World) (hl : l.length ≤ 2000) (hr : Rd ofE 4 w w.heap.size A l)
    (hsz : ∀ z ∈ l, z.p.size ≤ 9223372036854775807) (hv : ckO l = r) :
    Calls Tryz.prog 27 #[.slice A l.length c] w fun e w' => e = .returned (.int .i64 r) ∧ Below w.heap.size w w' := by
  have HV := Lib.hid hv
  have HR := Lib.hid hr
  have HSZ := Lib.hid hsz
  clear hr hv hsz
  have hmk : ∀ w, Sem.run Tryz.prog (Instr.makeMap 94 none) w = .ok (.map (some w.heap.size)) (w.alloc (.map #[] 0)) := fun w => run_makeMap _ w
  go_enter Tryz.func27, Tryz.ntmps27
  go_wp2_with fail
  have HM0 := Lib.hid (IdsM.made w)
  have hb0 := cur_new w (.map #[] 0)
  have HB00 := Lib.hid hb0
  clear hb0 hmk
  generalize w.alloc (Obj.map #[] 0) = w1 at HM0 HB00 ⊢
  go_loopw [12] (CkR w l) (fun i _ => l.length - (intOf i).toNat)
  case atStart => exact ⟨0, by omega, rfl, by intro j h; omega, HM0.out, HB00.out⟩
  case round =>
    clear HM0 HB00
    obtain ⟨k, hk, rfl, hno, hM, hB⟩ := hrel
    have HNO := Lib.hid hno
    have HB0 := Lib.hid hB
    have HM0 := Lib.hid hM
    clear hno hB hM
    by_cases hlt : k < l.length
    · obtain ⟨z, hz⟩ : ∃ z, l[k]? = some z := ⟨_, List.getElem?_eq_getElem hlt⟩
      obtain ⟨b, off, rfl, hbb, hcl⟩ := HR.out.at_ HB0.out hz
      obtain ⟨c0, c1, c2, c3⟩ := of_cells hcl
      have HZ := Lib.hid hz
      have HSP := Lib.hid (HSZ.out z (List.mem_of_getElem? hz))
      have HT := Lib.hid (oErr_at hz)
      have IDS := Lib.hid (ids_snoc hz)
      have hbl : b < wr.heap.size := by have := HB0.out.size; omega
      have hml := HM0.out.lt
      clear hcl hz
      have fin : ∀ q : Int, oErr l k = q → q ≠ 0 → q = r := fun q h1 h2 => by
        rw [← HV.out, ckO_of hl HNO.out hlt (by rw [h1]; exact h2), h1]
      have nxt : oErr l k = 0 → ∀ j, j < k + 1 → oErr l j = 0 := fun h j hj => by
        by_cases e : j = k
        · rw [e]; exact h
        · exact HNO.out j (by omega)
      have FIN := Lib.hid fin
      have NXT := Lib.hid nxt
      clear fin nxt
      cases h1 : decide (z.id < 1)
      · cases h2 : decide (1099511627776 < z.id)
        · have HID := Lib.hid (show (Lit.int .i64 z.id).wf = true by have e1 := of_decide_eq_false h1; have e2 := of_decide_eq_false h2; simp [Lit.wf, IntKind.min, IntKind.max, IntKind.signed, IntKind.bits]; omega)
          go_wp2_with fail
          obtain ⟨g, hg⟩ : ∃ g, g = wr.heap.size := ⟨_, rfl⟩
          have hbx := cur_new wr (.cells #[.int .i64 z.id, .string z.p, .int .i64 z.d, .int .i64 z.n] 32)
          have hbk := Blk.new wr 32 [.int .i64 z.id, .string z.p, .int .i64 z.d, .int .i64 z.n]
          generalize wr.alloc (Obj.cells #[.int .i64 z.id, .string z.p, .int .i64 z.d, .int .i64 z.n] 32) = w2 at hbx hbk ⊢
          rw [← hg] at hbk ⊢
          have d0 : w2.cell? ⟨g, 0, none⟩ = some (.int .i64 z.id) := hbk.cell 0
          have d1 : w2.cell? ⟨g, 1, none⟩ = some (.string z.p) := hbk.cell 1
          have d2 : w2.cell? ⟨g, 2, none⟩ = some (.int .i64 z.d) := hbk.cell 2
          have d3 : w2.cell? ⟨g, 3, none⟩ = some (.int .i64 z.n) := hbk.cell 3
          have hgl := hbk.lt
          have HB := Lib.hid (cur_step1 HB0.out hbx)
          have HM := Lib.hid (HM0.out.to hbx)
          have HK := Lib.hid (show Keep w w2 [(g, 0, .int .i64 z.id), (g, 1, .string z.p), (g, 2, .int .i64 z.d), (g, 3, .int .i64 z.n)] from ⟨HB.out, fun c hc => by simp at hc; rcases hc with rfl | rfl | rfl | rfl <;> exact ⟨hgl, by assumption⟩⟩)
          have hgb : b < g := by rw [hg]; exact hbl
          have hgm : w.heap.size < g := by rw [hg]; exact hml
          clear hbx hbk hg c0 c1 c2 c3
          cases hn1 : nameB z.p
          · have HE := Lib.hid (FIN.out 5 (by rw [HT.out]; simp only [errO, h1, h2, hn1]; rfl) (by decide))
            have HN1 := Lib.hid hn1
            clear hn1
            go_wp2_with (first
              | (go_at_call 48; refine (name_p _ _ _ HSP.out HN1.out).mono ?_; rintro e wn ⟨rfl, hbn⟩; replace HB := Lib.hid (cur_step1 HB.out hbn); replace HM := Lib.hid (HM.out.to hbn); replace HK := Lib.hid (HK.out.to hbn); have d0 : wn.cell? ⟨g, 0, none⟩ = some (.int .i64 z.id) := HK.out.get (by simp); have d1 : wn.cell? ⟨g, 1, none⟩ = some (.string z.p) := HK.out.get (by simp); have d2 : wn.cell? ⟨g, 2, none⟩ = some (.int .i64 z.d) := HK.out.get (by simp); have d3 : wn.cell? ⟨g, 3, none⟩ = some (.int .i64 z.n) := HK.out.get (by simp); have hgl := HK.out.lt (b := g) (o := 2) (v := .int .i64 z.d) (by simp); clear hbn))
            go_ret
            exact ⟨ret_int HE.out, HB.out⟩
          · have HN1 := Lib.hid hn1
            cases hd : isDayB z.d
            · have HE := Lib.hid (FIN.out 2 (by rw [HT.out]; simp only [errO, h1, h2, hn1, hd]; rfl) (by decide))
              have HD := Lib.hid hd
              clear hd hn1
              go_wp2_with (first
                | (go_at_call 48; refine (name_p _ _ _ HSP.out HN1.out).mono ?_; rintro e wn ⟨rfl, hbn⟩; replace HB := Lib.hid (cur_step1 HB.out hbn); replace HM := Lib.hid (HM.out.to hbn); replace HK := Lib.hid (HK.out.to hbn); have d0 : wn.cell? ⟨g, 0, none⟩ = some (.int .i64 z.id) := HK.out.get (by simp); have d1 : wn.cell? ⟨g, 1, none⟩ = some (.string z.p) := HK.out.get (by simp); have d2 : wn.cell? ⟨g, 2, none⟩ = some (.int .i64 z.d) := HK.out.get (by simp); have d3 : wn.cell? ⟨g, 3, none⟩ = some (.int .i64 z.n) := HK.out.get (by simp); have hgl := HK.out.lt (b := g) (o := 2) (v := .int .i64 z.d) (by simp); clear hbn)
                | (go_at_call 45; refine (isDay_p _ _ _ HD.out).mono ?_; rintro e wn ⟨rfl, rfl⟩))
              go_ret
              exact ⟨ret_int HE.out, HB.out⟩
            · have HD := Lib.hid hd
              cases h3 : decide (z.n < 1)
              · cases h4 : decide (8 < z.n)
                · have HC := Lib.hid (show oErr l k = if befO l k z then 8 else if seenO l k z.id then 7 else 0 by rw [HT.out]; simp only [errO, h1, h2, hn1, hd, h3, h4]; rfl)
                  clear hd hn1
                  rcases Nat.eq_zero_or_pos k with hk0 | hk0
                  · have hb0 : befO l k z = false := by rw [hk0]; rfl
                    have hkd : decide ((0 : Int) < (k : Int)) = false := decide_eq_false (by omega)
                    have hkd2 : decide (0 < k) = false := decide_eq_false (by omega)
                    have HK0 := Lib.hid hk0
                    clear hk0
                    have HC2 := Lib.hid (show oErr l k = if seenO l k z.id then 7 else 0 by rw [HC.out, hb0]; rfl)
                    cases hse : seenO l k z.id
                    · have HE := Lib.hid (show oErr l k = 0 by rw [HC2.out, hse]; rfl)
                      have HSE := Lib.hid hse
                      clear hse
                      go_wp2_with (first
                        | (go_at_call 48; refine (name_p _ _ _ HSP.out HN1.out).mono ?_; rintro e wn ⟨rfl, hbn⟩; replace HB := Lib.hid (cur_step1 HB.out hbn); replace HM := Lib.hid (HM.out.to hbn); replace HK := Lib.hid (HK.out.to hbn); have d0 : wn.cell? ⟨g, 0, none⟩ = some (.int .i64 z.id) := HK.out.get (by simp); have d1 : wn.cell? ⟨g, 1, none⟩ = some (.string z.p) := HK.out.get (by simp); have d2 : wn.cell? ⟨g, 2, none⟩ = some (.int .i64 z.d) := HK.out.get (by simp); have d3 : wn.cell? ⟨g, 3, none⟩ = some (.int .i64 z.n) := HK.out.get (by simp); have hgl := HK.out.lt (b := g) (o := 2) (v := .int .i64 z.d) (by simp); clear hbn)
                        | (go_at_call 45; refine (isDay_p _ _ _ HD.out).mono ?_; rintro e wn ⟨rfl, rfl⟩))
                      go_quiet (fail)
                      have hbq := cur_drew wn nq
                      generalize wn.drewN nq = wq at hbq ⊢
                      replace HB := Lib.hid (cur_step1 HB.out hbq)
                      replace HM := Lib.hid (HM.out.to hbq)
                      replace HK := Lib.hid (HK.out.to hbq)
                      have d0 : wq.cell? ⟨g, 0, none⟩ = some (.int .i64 z.id) := HK.out.get (by simp)
                      have hgl := HK.out.lt (b := g) (o := 2) (v := .int .i64 z.d) (by simp)
                      clear hbq
                      have hlk := HM.out.lookup HID.out
                      rw [show ((idsO l k).any fun y => y == z.id) = seenO l k z.id from ids_seen l k z.id, HSE.out] at hlk
                      go_wp2_with (at_mapUpdate; refine wpList_idsPut rfl _ _ _ rfl w.heap.size k (idsO l k) z.id (by rfl) (by rfl) (by rfl) HM.out (by unfold maxLen; omega) HID.out ?_; intro wp hmp hgp; have HMP := Lib.hid hmp; have HBP := Lib.hid (HB.out.grown hgp HB.out.size (by intro b hb; injection hb with hb; omega)); clear hmp hgp)
                      go_roundw
                      case rel => exact ⟨k + 1, hlt, by simp, NXT.out HE.out, by rw [IDS.out]; exact HMP.out, HBP.out⟩
                      case measure => simp [intOf]; omega
                    · have HE := Lib.hid (FIN.out 7 (by rw [HC2.out, hse]; rfl) (by decide))
                      have HSE := Lib.hid hse
                      clear hse
                      go_wp2_with (first
                        | (go_at_call 48; refine (name_p _ _ _ HSP.out HN1.out).mono ?_; rintro e wn ⟨rfl, hbn⟩; replace HB := Lib.hid (cur_step1 HB.out hbn); replace HM := Lib.hid (HM.out.to hbn); replace HK := Lib.hid (HK.out.to hbn); have d0 : wn.cell? ⟨g, 0, none⟩ = some (.int .i64 z.id) := HK.out.get (by simp); have d1 : wn.cell? ⟨g, 1, none⟩ = some (.string z.p) := HK.out.get (by simp); have d2 : wn.cell? ⟨g, 2, none⟩ = some (.int .i64 z.d) := HK.out.get (by simp); have d3 : wn.cell? ⟨g, 3, none⟩ = some (.int .i64 z.n) := HK.out.get (by simp); have hgl := HK.out.lt (b := g) (o := 2) (v := .int .i64 z.d) (by simp); clear hbn)
                        | (go_at_call 45; refine (isDay_p _ _ _ HD.out).mono ?_; rintro e wn ⟨rfl, rfl⟩))
                      go_quiet (fail)
                      have hbq := cur_drew wn nq
                      generalize wn.drewN nq = wq at hbq ⊢
                      replace HB := Lib.hid (cur_step1 HB.out hbq)
                      replace HM := Lib.hid (HM.out.to hbq)
                      replace HK := Lib.hid (HK.out.to hbq)
                      have d0 : wq.cell? ⟨g, 0, none⟩ = some (.int .i64 z.id) := HK.out.get (by simp)
                      have hgl := HK.out.lt (b := g) (o := 2) (v := .int .i64 z.d) (by simp)
                      clear hbq
                      have hlk := HM.out.lookup HID.out
                      rw [show ((idsO l k).any fun y => y == z.id) = seenO l k z.id from ids_seen l k z.id, HSE.out] at hlk
                      go_wp2_with fail
                      go_ret
                      exact ⟨ret_int HE.out, HB.out⟩
                  · obtain ⟨q, hq⟩ : ∃ q, k = q + 1 := ⟨k - 1, by omega⟩
                    have hi : (k : Int) - 1 = (q : Int) := by omega
                    have hql : q < l.length := by omega
                    have hkd : decide ((0 : Int) < (k : Int)) = true := decide_eq_true (by omega)
                    have hqd : decide ((q : Int) < (l.length : Int)) = true := decide_eq_true (by omega)
                    have hqb : (0 : Int) ≤ (q : Int) := by omega
                    have hqb2 : (q : Int) < (l.length : Int) := by omega
                    have hwr2 : IntKind.i64.wrap (q : Int) = (q : Int) := by (simp [IntKind.wrap, IntKind.bits, IntKind.signed]; omega)
                    obtain ⟨y, hy⟩ : ∃ y, l[q]? = some y := ⟨_, List.getElem?_eq_getElem hql⟩
                    obtain ⟨r0, hr0⟩ : ∃ r0, (if cmpI y.d z.d = 0 then cmpI y.id z.id else cmpI y.d z.d) = r0 := ⟨_, rfl⟩
                    have HRR := Lib.hid hr0
                    have hob := ord_p y z
                    rw [hr0] at hob
                    have HBT := Lib.hid (show befO l k z = badP y z by rw [hq, befO_at hy])
                    obtain ⟨b5, off5, h5, _, hcl5⟩ := HR.out.at_ (Below.refl _ _) hy
                    injection h5 with h5
                    injection h5 with h6 h7 _
                    subst h6 h7
                    obtain ⟨p0, p1, p2, p3⟩ := of_cells hcl5
                    have HQ := Lib.hid hq
                    clear hcl5 hq hy hr0
                    cases hbo : badP y z
                    · rw [hbo] at hob
                      have hb0 : befO l k z = false := by rw [HBT.out, hbo]
                      clear hbo
                      have HC2 := Lib.hid (show oErr l k = if seenO l k z.id then 7 else 0 by rw [HC.out, hb0]; rfl)
                      cases hse : seenO l k z.id
                      · have HE := Lib.hid (show oErr l k = 0 by rw [HC2.out, hse]; rfl)
                        have HSE := Lib.hid hse
                        clear hse
                        go_wp2_with (first
                          | (go_at_call 48; refine (name_p _ _ _ HSP.out HN1.out).mono ?_; rintro e wn ⟨rfl, hbn⟩; replace HB := Lib.hid (cur_step1 HB.out hbn); replace HM := Lib.hid (HM.out.to hbn); replace HK := Lib.hid (HK.out.to hbn); have d0 : wn.cell? ⟨g, 0, none⟩ = some (.int .i64 z.id) := HK.out.get (by simp); have d1 : wn.cell? ⟨g, 1, none⟩ = some (.string z.p) := HK.out.get (by simp); have d2 : wn.cell? ⟨g, 2, none⟩ = some (.int .i64 z.d) := HK.out.get (by simp); have d3 : wn.cell? ⟨g, 3, none⟩ = some (.int .i64 z.n) := HK.out.get (by simp); have hgl := HK.out.lt (b := g) (o := 2) (v := .int .i64 z.d) (by simp); clear hbn)
                          | (go_at_call 45; refine (isDay_p _ _ _ HD.out).mono ?_; rintro e wn ⟨rfl, rfl⟩))
                        have y0 := (HB.out.cell (p := ⟨b, off + q * 4, none⟩) hbb).trans p0
                        have y2 := (HB.out.cell (p := ⟨b, off + q * 4 + 2, none⟩) hbb).trans p2
                        have hbn2 : b < wn.heap.size := by have := HB.out.size; omega
                        have Q0 := Lib.hid (show (wn.alloc (.cells #[.int .i64 (cmpI y.d z.d), .int .i64 (cmpI y.id z.id)] 3)).drew.cell? ⟨wn.heap.size, 0, none⟩ = some (.int .i64 (cmpI y.d z.d)) by simp)
                        have Q1 := Lib.hid (show (wn.alloc (.cells #[.int .i64 (cmpI y.d z.d), .int .i64 (cmpI y.id z.id)] 3)).drew.cell? ⟨wn.heap.size, 1, none⟩ = some (.int .i64 (cmpI y.id z.id)) by simp)
                        go_region_held3 (fun w' => w'.cell? ⟨g, 0, none⟩ = some (.int .i64 z.id) ∧ w'.cell? ⟨g, 2, none⟩ = some (.int .i64 z.d) ∧ w'.cell? ⟨b, off + q * 4, none⟩ = some (.int .i64 y.id) ∧ w'.cell? ⟨b, off + q * 4 + 2, none⟩ = some (.int .i64 y.d))
                          (first
                            | (go_keep; done)
                            | (go_split_ands; refine ⟨?_, ?_, ?_, ?_⟩ <;> (rw [World.cell?_alloc_lt _ _ _ (by assumption)]; assumption))
                            | (go_split_ands; refine ⟨?_, ?_, ?_, ?_⟩ <;> assumption))
                          ((first
                            | (go_at_call 50; refine (comp_i _ _ _).mono ?_; rintro e w1 ⟨rfl, rfl⟩)
                            | (go_at_call 49; refine (or_f (cmpI y.d z.d) (cmpI y.id z.id) r0 wn.heap.size _ Q0.out Q1.out HRR.out).mono ?_; rintro e w1 ⟨rfl, rfl⟩)))
                        have hbq := (cur_new wn (.cells #[.int .i64 (cmpI y.d z.d), .int .i64 (cmpI y.id z.id)] 3)).drew
                        generalize (wn.alloc (Obj.cells #[.int .i64 (cmpI y.d z.d), .int .i64 (cmpI y.id z.id)] 3)).drew = wq at hbq ⊢
                        replace HB := Lib.hid (cur_step1 HB.out hbq)
                        replace HM := Lib.hid (HM.out.to hbq)
                        replace HK := Lib.hid (HK.out.to hbq)
                        have d0 : wq.cell? ⟨g, 0, none⟩ = some (.int .i64 z.id) := HK.out.get (by simp)
                        have hgl := HK.out.lt (b := g) (o := 2) (v := .int .i64 z.d) (by simp)
                        clear hbq
                        have hlk := HM.out.lookup HID.out
                        rw [show ((idsO l k).any fun y => y == z.id) = seenO l k z.id from ids_seen l k z.id, HSE.out] at hlk
                        go_wp2_with (at_mapUpdate; refine wpList_idsPut rfl _ _ _ rfl w.heap.size k (idsO l k) z.id (by rfl) (by rfl) (by rfl) HM.out (by unfold maxLen; omega) HID.out ?_; intro wp hmp hgp; have HMP := Lib.hid hmp; have HBP := Lib.hid (HB.out.grown hgp HB.out.size (by intro b hb; injection hb with hb; omega)); clear hmp hgp)
                        go_roundw
                        case rel => exact ⟨k + 1, hlt, by simp, NXT.out HE.out, by rw [IDS.out]; exact HMP.out, HBP.out⟩
                        case measure => simp [intOf]; omega
                      · have HE := Lib.hid (FIN.out 7 (by rw [HC2.out, hse]; rfl) (by decide))
                        have HSE := Lib.hid hse
                        clear hse
                        go_wp2_with (first
                          | (go_at_call 48; refine (name_p _ _ _ HSP.out HN1.out).mono ?_; rintro e wn ⟨rfl, hbn⟩; replace HB := Lib.hid (cur_step1 HB.out hbn); replace HM := Lib.hid (HM.out.to hbn); replace HK := Lib.hid (HK.out.to hbn); have d0 : wn.cell? ⟨g, 0, none⟩ = some (.int .i64 z.id) := HK.out.get (by simp); have d1 : wn.cell? ⟨g, 1, none⟩ = some (.string z.p) := HK.out.get (by simp); have d2 : wn.cell? ⟨g, 2, none⟩ = some (.int .i64 z.d) := HK.out.get (by simp); have d3 : wn.cell? ⟨g, 3, none⟩ = some (.int .i64 z.n) := HK.out.get (by simp); have hgl := HK.out.lt (b := g) (o := 2) (v := .int .i64 z.d) (by simp); clear hbn)
                          | (go_at_call 45; refine (isDay_p _ _ _ HD.out).mono ?_; rintro e wn ⟨rfl, rfl⟩))
                        have y0 := (HB.out.cell (p := ⟨b, off + q * 4, none⟩) hbb).trans p0
                        have y2 := (HB.out.cell (p := ⟨b, off + q * 4 + 2, none⟩) hbb).trans p2
                        have hbn2 : b < wn.heap.size := by have := HB.out.size; omega
                        have Q0 := Lib.hid (show (wn.alloc (.cells #[.int .i64 (cmpI y.d z.d), .int .i64 (cmpI y.id z.id)] 3)).drew.cell? ⟨wn.heap.size, 0, none⟩ = some (.int .i64 (cmpI y.d z.d)) by simp)
                        have Q1 := Lib.hid (show (wn.alloc (.cells #[.int .i64 (cmpI y.d z.d), .int .i64 (cmpI y.id z.id)] 3)).drew.cell? ⟨wn.heap.size, 1, none⟩ = some (.int .i64 (cmpI y.id z.id)) by simp)
                        go_region_held3 (fun w' => w'.cell? ⟨g, 0, none⟩ = some (.int .i64 z.id) ∧ w'.cell? ⟨g, 2, none⟩ = some (.int .i64 z.d) ∧ w'.cell? ⟨b, off + q * 4, none⟩ = some (.int .i64 y.id) ∧ w'.cell? ⟨b, off + q * 4 + 2, none⟩ = some (.int .i64 y.d))
                          (first
                            | (go_keep; done)
                            | (go_split_ands; refine ⟨?_, ?_, ?_, ?_⟩ <;> (rw [World.cell?_alloc_lt _ _ _ (by assumption)]; assumption))
                            | (go_split_ands; refine ⟨?_, ?_, ?_, ?_⟩ <;> assumption))
                          ((first
                            | (go_at_call 50; refine (comp_i _ _ _).mono ?_; rintro e w1 ⟨rfl, rfl⟩)
                            | (go_at_call 49; refine (or_f (cmpI y.d z.d) (cmpI y.id z.id) r0 wn.heap.size _ Q0.out Q1.out HRR.out).mono ?_; rintro e w1 ⟨rfl, rfl⟩)))
                        have hbq := (cur_new wn (.cells #[.int .i64 (cmpI y.d z.d), .int .i64 (cmpI y.id z.id)] 3)).drew
                        generalize (wn.alloc (Obj.cells #[.int .i64 (cmpI y.d z.d), .int .i64 (cmpI y.id z.id)] 3)).drew = wq at hbq ⊢
                        replace HB := Lib.hid (cur_step1 HB.out hbq)
                        replace HM := Lib.hid (HM.out.to hbq)
                        replace HK := Lib.hid (HK.out.to hbq)
                        have d0 : wq.cell? ⟨g, 0, none⟩ = some (.int .i64 z.id) := HK.out.get (by simp)
                        have hgl := HK.out.lt (b := g) (o := 2) (v := .int .i64 z.d) (by simp)
                        clear hbq
                        have hlk := HM.out.lookup HID.out
                        rw [show ((idsO l k).any fun y => y == z.id) = seenO l k z.id from ids_seen l k z.id, HSE.out] at hlk
                        go_wp2_with fail
                        go_ret
                        exact ⟨ret_int HE.out, HB.out⟩
                    · rw [hbo] at hob
                      have HE := Lib.hid (FIN.out 8 (by rw [HC.out, HBT.out, hbo]; rfl) (by decide))
                      clear hbo
                      go_wp2_with (first
                        | (go_at_call 48; refine (name_p _ _ _ HSP.out HN1.out).mono ?_; rintro e wn ⟨rfl, hbn⟩; replace HB := Lib.hid (cur_step1 HB.out hbn); replace HM := Lib.hid (HM.out.to hbn); replace HK := Lib.hid (HK.out.to hbn); have d0 : wn.cell? ⟨g, 0, none⟩ = some (.int .i64 z.id) := HK.out.get (by simp); have d1 : wn.cell? ⟨g, 1, none⟩ = some (.string z.p) := HK.out.get (by simp); have d2 : wn.cell? ⟨g, 2, none⟩ = some (.int .i64 z.d) := HK.out.get (by simp); have d3 : wn.cell? ⟨g, 3, none⟩ = some (.int .i64 z.n) := HK.out.get (by simp); have hgl := HK.out.lt (b := g) (o := 2) (v := .int .i64 z.d) (by simp); clear hbn)
                        | (go_at_call 45; refine (isDay_p _ _ _ HD.out).mono ?_; rintro e wn ⟨rfl, rfl⟩))
                      have y0 := (HB.out.cell (p := ⟨b, off + q * 4, none⟩) hbb).trans p0
                      have y2 := (HB.out.cell (p := ⟨b, off + q * 4 + 2, none⟩) hbb).trans p2
                      have hbn2 : b < wn.heap.size := by have := HB.out.size; omega
                      have Q0 := Lib.hid (show (wn.alloc (.cells #[.int .i64 (cmpI y.d z.d), .int .i64 (cmpI y.id z.id)] 3)).drew.cell? ⟨wn.heap.size, 0, none⟩ = some (.int .i64 (cmpI y.d z.d)) by simp)
                      have Q1 := Lib.hid (show (wn.alloc (.cells #[.int .i64 (cmpI y.d z.d), .int .i64 (cmpI y.id z.id)] 3)).drew.cell? ⟨wn.heap.size, 1, none⟩ = some (.int .i64 (cmpI y.id z.id)) by simp)
                      go_region_held3 (fun w' => w'.cell? ⟨g, 0, none⟩ = some (.int .i64 z.id) ∧ w'.cell? ⟨g, 2, none⟩ = some (.int .i64 z.d) ∧ w'.cell? ⟨b, off + q * 4, none⟩ = some (.int .i64 y.id) ∧ w'.cell? ⟨b, off + q * 4 + 2, none⟩ = some (.int .i64 y.d))
                        (first
                          | (go_keep; done)
                          | (go_split_ands; refine ⟨?_, ?_, ?_, ?_⟩ <;> (rw [World.cell?_alloc_lt _ _ _ (by assumption)]; assumption))
                          | (go_split_ands; refine ⟨?_, ?_, ?_, ?_⟩ <;> assumption))
                        ((first
                          | (go_at_call 50; refine (comp_i _ _ _).mono ?_; rintro e w1 ⟨rfl, rfl⟩)
                          | (go_at_call 49; refine (or_f (cmpI y.d z.d) (cmpI y.id z.id) r0 wn.heap.size _ Q0.out Q1.out HRR.out).mono ?_; rintro e w1 ⟨rfl, rfl⟩)))
                      have hbq := (cur_new wn (.cells #[.int .i64 (cmpI y.d z.d), .int .i64 (cmpI y.id z.id)] 3)).drew
                      generalize (wn.alloc (Obj.cells #[.int .i64 (cmpI y.d z.d), .int .i64 (cmpI y.id z.id)] 3)).drew = wq at hbq ⊢
                      replace HB := Lib.hid (cur_step1 HB.out hbq)
                      replace HM := Lib.hid (HM.out.to hbq)
                      replace HK := Lib.hid (HK.out.to hbq)
                      have d0 : wq.cell? ⟨g, 0, none⟩ = some (.int .i64 z.id) := HK.out.get (by simp)
                      have hgl := HK.out.lt (b := g) (o := 2) (v := .int .i64 z.d) (by simp)
                      clear hbq
                      go_wp2_with fail
                      go_ret
                      exact ⟨ret_int HE.out, HB.out⟩
                · have HE := Lib.hid (FIN.out 2 (by rw [HT.out]; simp only [errO, h1, h2, hn1, hd, h3, h4]; rfl) (by decide))
                  clear hd hn1
                  go_wp2_with (first
                    | (go_at_call 48; refine (name_p _ _ _ HSP.out HN1.out).mono ?_; rintro e wn ⟨rfl, hbn⟩; replace HB := Lib.hid (cur_step1 HB.out hbn); replace HM := Lib.hid (HM.out.to hbn); replace HK := Lib.hid (HK.out.to hbn); have d0 : wn.cell? ⟨g, 0, none⟩ = some (.int .i64 z.id) := HK.out.get (by simp); have d1 : wn.cell? ⟨g, 1, none⟩ = some (.string z.p) := HK.out.get (by simp); have d2 : wn.cell? ⟨g, 2, none⟩ = some (.int .i64 z.d) := HK.out.get (by simp); have d3 : wn.cell? ⟨g, 3, none⟩ = some (.int .i64 z.n) := HK.out.get (by simp); have hgl := HK.out.lt (b := g) (o := 2) (v := .int .i64 z.d) (by simp); clear hbn)
                    | (go_at_call 45; refine (isDay_p _ _ _ HD.out).mono ?_; rintro e wn ⟨rfl, rfl⟩))
                  go_ret
                  exact ⟨ret_int HE.out, HB.out⟩
              · have HE := Lib.hid (FIN.out 2 (by rw [HT.out]; simp only [errO, h1, h2, hn1, hd, h3]; rfl) (by decide))
                clear hd hn1
                go_wp2_with (first
                  | (go_at_call 48; refine (name_p _ _ _ HSP.out HN1.out).mono ?_; rintro e wn ⟨rfl, hbn⟩; replace HB := Lib.hid (cur_step1 HB.out hbn); replace HM := Lib.hid (HM.out.to hbn); replace HK := Lib.hid (HK.out.to hbn); have d0 : wn.cell? ⟨g, 0, none⟩ = some (.int .i64 z.id) := HK.out.get (by simp); have d1 : wn.cell? ⟨g, 1, none⟩ = some (.string z.p) := HK.out.get (by simp); have d2 : wn.cell? ⟨g, 2, none⟩ = some (.int .i64 z.d) := HK.out.get (by simp); have d3 : wn.cell? ⟨g, 3, none⟩ = some (.int .i64 z.n) := HK.out.get (by simp); have hgl := HK.out.lt (b := g) (o := 2) (v := .int .i64 z.d) (by simp); clear hbn)
                  | (go_at_call 45; refine (isDay_p _ _ _ HD.out).mono ?_; rintro e wn ⟨rfl, rfl⟩))
                go_ret
                exact ⟨ret_int HE.out, HB.out⟩
        · have HE := Lib.hid (FIN.out 2 (by rw [HT.out]; simp only [errO, h1, h2]; rfl) (by decide))
          go_wp2_with fail
          go_ret
          exact ⟨ret_int HE.out, cur_step1 HB0.out (cur_new _ _)⟩
      · have HE := Lib.hid (FIN.out 2 (by rw [HT.out]; simp only [errO, h1]; rfl) (by decide))
        go_wp2_with fail
        go_ret
        exact ⟨ret_int HE.out, cur_step1 HB0.out (cur_new _ _)⟩
    · have hke : k = l.length := by omega
      have HE := Lib.hid (show (0 : Int) = r by rw [← HV.out, ckO_end hl (by rw [← hke]; exact HNO.out)])
      go_wp2
      go_ret
      exact ⟨ret_int HE.out, HB0.out⟩
end Go.Proofs.YtpninpohligomaaGreatDoor
