/-
  Chapter 56: Check of the reference.
-/
import Derived.Test.YtpninpohligomaaGreatDoorCk56
set_option linter.unusedSimpArgs false
set_option linter.unusedVariables false
namespace Go.Proofs.YtpninpohligomaaGreatDoor
open Go.RowKit
set_option maxRecDepth 100000
set_option maxHeartbeats 1000000
def CkQ (w : World) (l : List Of) (i : Value) (wr : World) : Prop := ∃ k : Nat, k ≤ l.length ∧ i = .int .i64 k ∧ (∀ j, j < k → oErr l j = 0) ∧ Below w.heap.size w wr
def InQ (w : World) (l : List Of) (cs : List (Nat × Nat × Value)) (k : Nat) (x : Int) (i : Value) (wr : World) : Prop := ∃ j : Nat, j ≤ k ∧ i = .int .i64 j ∧ (∀ t y, t < j → l[t]? = some y → y.id ≠ x) ∧ Keep w wr cs
theorem seen_none {l : List Of} {k : Nat} {x : Int} (h : ∀ t y, t < k → l[t]? = some y → y.id ≠ x) : seenO l k x = false := by
  unfold seenO
  rw [List.any_eq_false]
  intro y hy
  obtain ⟨t, ht⟩ := List.mem_iff_getElem?.1 hy
  rw [List.getElem?_take] at ht
  split at ht
  · next htk => simpa using h t y htk ht
  · cases ht
theorem seen_some {l : List Of} {k t : Nat} {y : Of} {x : Int} (ht : t < k) (hy : l[t]? = some y) (hx : y.id = x) : seenO l k x = true := by
  unfold seenO
  rw [List.any_eq_true]
  exact ⟨y, List.mem_iff_getElem?.2 ⟨t, by rw [List.getElem?_take, if_pos ht]; exact hy⟩, by simpa using hx⟩
theorem ck_r (A : Option Addr) (c : Nat) (l : List Of) (r : Int) (w : World) (hl : l.length ≤ 2000) (hr : Rd ofE 4 w w.heap.size A l)
    (hlc : l.length ≤ c) (hsz : ∀ z ∈ l, z.p.size ≤ 9223372036854775807) (hv : ckO l = r) :
    Calls Tryz.prog 31 #[.slice A l.length c] w fun e w' => e = .returned (.int .i64 r) ∧ Below w.heap.size w w' := by
  have HV := Lib.hid hv
  have HR := Lib.hid hr
  have HSZ := Lib.hid hsz
  clear hr hv hsz
  go_enter Tryz.func31, Tryz.ntmps31
  go_wp2_with fail
  go_loopw [12] (CkQ w l) (fun i _ => l.length - (intOf i).toNat)
  case atStart => exact ⟨0, by omega, rfl, by intro j h; omega, Below.refl _ _⟩
  case round =>
    obtain ⟨k, hk, rfl, hno, hB⟩ := hrel
    have HNO := Lib.hid hno
    have HB0 := Lib.hid hB
    clear hno hB
    by_cases hlt : k < l.length
    · obtain ⟨z, hz⟩ : ∃ z, l[k]? = some z := ⟨_, List.getElem?_eq_getElem hlt⟩
      obtain ⟨b, off, rfl, hbb, hcl⟩ := HR.out.at_ HB0.out hz
      obtain ⟨c0, c1, c2, c3⟩ := of_cells hcl
      have HZ := Lib.hid hz
      have HSP := Lib.hid (HSZ.out z (List.mem_of_getElem? hz))
      have HT := Lib.hid (oErr_at hz)
      have hbl : b < wr.heap.size := by have := HB0.out.size; omega
      clear hcl hz
      have fin : ∀ q : Int, oErr l k = q → q ≠ 0 → q = r := fun q h1 h2 => by
        rw [← HV.out, ckO_of hl HNO.out hlt (by rw [h1]; exact h2), h1]
      have nxt : oErr l k = 0 → ∀ j, j < k + 1 → oErr l j = 0 := fun h j hj => by
        by_cases e : j = k
        · rw [e]; exact h
        · exact HNO.out j (by omega)
      have FIN := Lib.hid fin
      have NXT := Lib.hid nxt
      clear fin nxt
      cases h1 : decide (z.id < 1)
      · cases h2 : decide (1099511627776 < z.id)
        · have HID := Lib.hid (show (Lit.int .i64 z.id).wf = true by have e1 := of_decide_eq_false h1; have e2 := of_decide_eq_false h2; simp [Lit.wf, IntKind.min, IntKind.max, IntKind.signed, IntKind.bits]; omega)
          go_wp2_with fail
          obtain ⟨g, hg⟩ : ∃ g, g = wr.heap.size := ⟨_, rfl⟩
          have hbx := cur_new wr (.cells #[.int .i64 z.id, .string z.p, .int .i64 z.d, .int .i64 z.n] 32)
          have hbk := Blk.new wr 32 [.int .i64 z.id, .string z.p, .int .i64 z.d, .int .i64 z.n]
          generalize wr.alloc (Obj.cells #[.int .i64 z.id, .string z.p, .int .i64 z.d, .int .i64 z.n] 32) = w2 at hbx hbk ⊢
          rw [← hg] at hbk ⊢
          have d0 : w2.cell? ⟨g, 0, none⟩ = some (.int .i64 z.id) := hbk.cell 0
          have d1 : w2.cell? ⟨g, 1, none⟩ = some (.string z.p) := hbk.cell 1
          have d2 : w2.cell? ⟨g, 2, none⟩ = some (.int .i64 z.d) := hbk.cell 2
          have d3 : w2.cell? ⟨g, 3, none⟩ = some (.int .i64 z.n) := hbk.cell 3
          have hgl := hbk.lt
          have HB := Lib.hid (cur_step1 HB0.out hbx)
          have HK := Lib.hid (show Keep w w2 [(g, 0, .int .i64 z.id), (g, 1, .string z.p), (g, 2, .int .i64 z.d), (g, 3, .int .i64 z.n)] from ⟨HB.out, fun c hc => by simp at hc; rcases hc with rfl | rfl | rfl | rfl <;> exact ⟨hgl, by assumption⟩⟩)
          have hgb : b < g := by rw [hg]; exact hbl
          clear hbx hbk hg c0 c1 c2 c3
          cases hn1 : nameB z.p
          · have HE := Lib.hid (FIN.out 5 (by rw [HT.out]; simp only [errO, h1, h2, hn1]; rfl) (by decide))
            have HN1 := Lib.hid hn1
            clear hn1
            go_wp2_with (first
              | (go_at_call 53; refine (name_r _ _ _ HSP.out HN1.out).mono ?_; rintro e wn ⟨rfl, hbn⟩; replace HB := Lib.hid (cur_step1 HB.out hbn); replace HK := Lib.hid (HK.out.to hbn); have d0 : wn.cell? ⟨g, 0, none⟩ = some (.int .i64 z.id) := HK.out.get (by simp); have d1 : wn.cell? ⟨g, 1, none⟩ = some (.string z.p) := HK.out.get (by simp); have d2 : wn.cell? ⟨g, 2, none⟩ = some (.int .i64 z.d) := HK.out.get (by simp); have d3 : wn.cell? ⟨g, 3, none⟩ = some (.int .i64 z.n) := HK.out.get (by simp); have hgl := HK.out.lt (b := g) (o := 2) (v := .int .i64 z.d) (by simp); clear hbn))
            go_ret
            exact ⟨ret_int HE.out, HB.out⟩
          · have HN1 := Lib.hid hn1
            cases hd : isDayB z.d
            · have HE := Lib.hid (FIN.out 2 (by rw [HT.out]; simp only [errO, h1, h2, hn1, hd]; rfl) (by decide))
              have HD := Lib.hid hd
              clear hd hn1
              go_wp2_with (first
                | (go_at_call 53; refine (name_r _ _ _ HSP.out HN1.out).mono ?_; rintro e wn ⟨rfl, hbn⟩; replace HB := Lib.hid (cur_step1 HB.out hbn); replace HK := Lib.hid (HK.out.to hbn); have d0 : wn.cell? ⟨g, 0, none⟩ = some (.int .i64 z.id) := HK.out.get (by simp); have d1 : wn.cell? ⟨g, 1, none⟩ = some (.string z.p) := HK.out.get (by simp); have d2 : wn.cell? ⟨g, 2, none⟩ = some (.int .i64 z.d) := HK.out.get (by simp); have d3 : wn.cell? ⟨g, 3, none⟩ = some (.int .i64 z.n) := HK.out.get (by simp); have hgl := HK.out.lt (b := g) (o := 2) (v := .int .i64 z.d) (by simp); clear hbn)
                | (go_at_call 54; refine (day_r _ _ _ HD.out).mono ?_; rintro e wn ⟨rfl, rfl⟩))
              go_ret
              exact ⟨ret_int HE.out, HB.out⟩
            · have HD := Lib.hid hd
              cases h3 : decide (z.n < 1)
              · cases h4 : decide (8 < z.n)
                · have HC := Lib.hid (show oErr l k = if befO l k z then 8 else if seenO l k z.id then 7 else 0 by rw [HT.out]; simp only [errO, h1, h2, hn1, hd, h3, h4]; rfl)
                  clear hd hn1
                  rcases Nat.eq_zero_or_pos k with hk0 | hk0
                  · have hb0 : befO l k z = false := by rw [hk0]; rfl
                    have hkd : decide ((0 : Int) < (k : Int)) = false := decide_eq_false (by omega)
                    have hkd2 : decide (0 < k) = false := decide_eq_false (by omega)
                    have HK0 := Lib.hid hk0
                    clear hk0
                    have HC2 := Lib.hid (show oErr l k = if seenO l k z.id then 7 else 0 by rw [HC.out, hb0]; rfl)
                    go_wp2_with (first
                      | (go_at_call 53; refine (name_r _ _ _ HSP.out HN1.out).mono ?_; rintro e wn ⟨rfl, hbn⟩; replace HB := Lib.hid (cur_step1 HB.out hbn); replace HK := Lib.hid (HK.out.to hbn); have d0 : wn.cell? ⟨g, 0, none⟩ = some (.int .i64 z.id) := HK.out.get (by simp); have d1 : wn.cell? ⟨g, 1, none⟩ = some (.string z.p) := HK.out.get (by simp); have d2 : wn.cell? ⟨g, 2, none⟩ = some (.int .i64 z.d) := HK.out.get (by simp); have d3 : wn.cell? ⟨g, 3, none⟩ = some (.int .i64 z.n) := HK.out.get (by simp); have hgl := HK.out.lt (b := g) (o := 2) (v := .int .i64 z.d) (by simp); clear hbn)
                      | (go_at_call 54; refine (day_r _ _ _ HD.out).mono ?_; rintro e wn ⟨rfl, rfl⟩))
                    go_quiet (fail)
                    have hbq := cur_drew wn nq
                    generalize wn.drewN nq = wq at hbq ⊢
                    replace HB := Lib.hid (cur_step1 HB.out hbq)
                    obtain ⟨CS, hCS⟩ : ∃ CS : List (Nat × Nat × Value), CS = [(g, 0, .int .i64 z.id), (g, 1, .string z.p), (g, 2, .int .i64 z.d), (g, 3, .int .i64 z.n)] := ⟨_, rfl⟩
                    have HCS := Lib.hid hCS
                    replace HK := Lib.hid (HK.out.to hbq)
                    rw [← hCS] at HK
                    have hkc : (k : Int) ≤ (c : Int) := by omega
                    have hkz : (0 : Int) ≤ (k : Int) := by omega
                    clear hbq hCS
                    go_wp2_with fail
                    go_loopw [86] (InQ w l CS k z.id) (fun i _ => k - (intOf i).toNat)
                    case atStart => exact ⟨0, by omega, rfl, by intro t y h; omega, HK.out⟩
                    case round =>
                      clear HK
                      obtain ⟨j, hj, rfl, hnj, hKj⟩ := hrel
                      have HNJ := Lib.hid hnj
                      have HKJ := Lib.hid hKj
                      rw [HCS.out] at hKj
                      have e0 : wr.cell? ⟨g, 0, none⟩ = some (.int .i64 z.id) := hKj.get (by simp)
                      have hgl2 := hKj.lt (b := g) (o := 0) (v := .int .i64 z.id) (by simp)
                      clear hnj hKj
                      by_cases hjk : j < k
                      · obtain ⟨y5, hy5⟩ : ∃ y5, l[j]? = some y5 := ⟨_, List.getElem?_eq_getElem (by omega)⟩
                        obtain ⟨b5, off5, h5, _, hcl5⟩ := HR.out.at_ HKJ.out.1 hy5
                        injection h5 with h5
                        injection h5 with h6 h7 _
                        subst h6 h7
                        obtain ⟨u0, u1, u2, u3⟩ := of_cells hcl5
                        have HY5 := Lib.hid hy5
                        clear hcl5 hy5
                        cases hq5 : (y5.id == z.id)
                        · have HN5 := Lib.hid (show y5.id ≠ z.id by simpa using hq5)
                          go_wp2_with fail
                          go_roundw
                          case rel =>
                            refine ⟨j + 1, hjk, by simp, fun t y ht hy => ?_, HKJ.out.to (cur_new _ _)⟩
                            by_cases et : t = j
                            · subst et
                              rw [HY5.out] at hy
                              injection hy with hy
                              rw [← hy]; exact HN5.out
                            · exact HNJ.out t y (by omega) hy
                          case measure => simp [intOf]; omega
                        · have HE := Lib.hid (FIN.out 7 (by rw [HC2.out, seen_some hjk HY5.out (by simpa using hq5)]; rfl) (by decide))
                          go_wp2_with fail
                          go_ret
                          exact ⟨ret_int HE.out, cur_step1 HKJ.out.1 (cur_new _ _)⟩
                      · have hje : j = k := by omega
                        have HE := Lib.hid (show oErr l k = 0 by rw [HC2.out, seen_none (by rw [← hje]; exact HNJ.out)]; rfl)
                        clear hje
                        go_wp2_with fail
                        go_roundw
                        case rel => exact ⟨k + 1, hlt, by simp, NXT.out HE.out, HKJ.out.1⟩
                        case measure => simp [intOf]; omega
                  · obtain ⟨q, hq⟩ : ∃ q, k = q + 1 := ⟨k - 1, by omega⟩
                    have hi : (k : Int) - 1 = (q : Int) := by omega
                    have hql : q < l.length := by omega
                    have hkd : decide ((0 : Int) < (k : Int)) = true := decide_eq_true (by omega)
                    have hqd : decide ((q : Int) < (l.length : Int)) = true := decide_eq_true (by omega)
                    have hqb : (0 : Int) ≤ (q : Int) := by omega
                    have hqb2 : (q : Int) < (l.length : Int) := by omega
                    have hwr2 : IntKind.i64.wrap (q : Int) = (q : Int) := by (simp [IntKind.wrap, IntKind.bits, IntKind.signed]; omega)
                    obtain ⟨y, hy⟩ : ∃ y, l[q]? = some y := ⟨_, List.getElem?_eq_getElem hql⟩
                    have HBT := Lib.hid (show befO l k z = badP y z by rw [hq, befO_at hy])
                    obtain ⟨b5, off5, h5, _, hcl5⟩ := HR.out.at_ (Below.refl _ _) hy
                    injection h5 with h5
                    injection h5 with h6 h7 _
                    subst h6 h7
                    obtain ⟨p0, p1, p2, p3⟩ := of_cells hcl5
                    have HQ := Lib.hid hq
                    clear hcl5 hq hy
                    cases h5 : decide (z.d < y.d)
                    · cases h6 : (z.d == y.d)
                      · have hb0 : befO l k z = false := by rw [HBT.out]; unfold badP; rw [h5]; simp at h6 ⊢; simp [h6]
                        have HC2 := Lib.hid (show oErr l k = if seenO l k z.id then 7 else 0 by rw [HC.out, hb0]; rfl)
                        go_wp2_with (first
                          | (go_at_call 53; refine (name_r _ _ _ HSP.out HN1.out).mono ?_; rintro e wn ⟨rfl, hbn⟩; replace HB := Lib.hid (cur_step1 HB.out hbn); replace HK := Lib.hid (HK.out.to hbn); have d0 : wn.cell? ⟨g, 0, none⟩ = some (.int .i64 z.id) := HK.out.get (by simp); have d1 : wn.cell? ⟨g, 1, none⟩ = some (.string z.p) := HK.out.get (by simp); have d2 : wn.cell? ⟨g, 2, none⟩ = some (.int .i64 z.d) := HK.out.get (by simp); have d3 : wn.cell? ⟨g, 3, none⟩ = some (.int .i64 z.n) := HK.out.get (by simp); have hgl := HK.out.lt (b := g) (o := 2) (v := .int .i64 z.d) (by simp); clear hbn)
                          | (go_at_call 54; refine (day_r _ _ _ HD.out).mono ?_; rintro e wn ⟨rfl, rfl⟩))
                        have y0 := (HB.out.cell (p := ⟨b, off + q * 4, none⟩) hbb).trans p0
                        have y2 := (HB.out.cell (p := ⟨b, off + q * 4 + 2, none⟩) hbb).trans p2
                        have hbn2 : b < wn.heap.size := by have := HB.out.size; omega
                        go_quiet (fail)
                        have hbq := cur_drew wn nq
                        generalize wn.drewN nq = wq at hbq ⊢
                        replace HB := Lib.hid (cur_step1 HB.out hbq)
                        obtain ⟨CS, hCS⟩ : ∃ CS : List (Nat × Nat × Value), CS = [(g, 0, .int .i64 z.id), (g, 1, .string z.p), (g, 2, .int .i64 z.d), (g, 3, .int .i64 z.n)] := ⟨_, rfl⟩
                        have HCS := Lib.hid hCS
                        replace HK := Lib.hid (HK.out.to hbq)
                        rw [← hCS] at HK
                        have hkc : (k : Int) ≤ (c : Int) := by omega
                        have hkz : (0 : Int) ≤ (k : Int) := by omega
                        clear hbq hCS
                        go_wp2_with fail
                        go_loopw [86] (InQ w l CS k z.id) (fun i _ => k - (intOf i).toNat)
                        case atStart => exact ⟨0, by omega, rfl, by intro t y h; omega, HK.out⟩
                        case round =>
                          clear HK
                          obtain ⟨j, hj, rfl, hnj, hKj⟩ := hrel
                          have HNJ := Lib.hid hnj
                          have HKJ := Lib.hid hKj
                          rw [HCS.out] at hKj
                          have e0 : wr.cell? ⟨g, 0, none⟩ = some (.int .i64 z.id) := hKj.get (by simp)
                          have hgl2 := hKj.lt (b := g) (o := 0) (v := .int .i64 z.id) (by simp)
                          clear hnj hKj
                          by_cases hjk : j < k
                          · obtain ⟨y5, hy5⟩ : ∃ y5, l[j]? = some y5 := ⟨_, List.getElem?_eq_getElem (by omega)⟩
                            obtain ⟨b5, off5, h5, _, hcl5⟩ := HR.out.at_ HKJ.out.1 hy5
                            injection h5 with h5
                            injection h5 with h6 h7 _
                            subst h6 h7
                            obtain ⟨u0, u1, u2, u3⟩ := of_cells hcl5
                            have HY5 := Lib.hid hy5
                            clear hcl5 hy5
                            cases hq5 : (y5.id == z.id)
                            · have HN5 := Lib.hid (show y5.id ≠ z.id by simpa using hq5)
                              go_wp2_with fail
                              go_roundw
                              case rel =>
                                refine ⟨j + 1, hjk, by simp, fun t y ht hy => ?_, HKJ.out.to (cur_new _ _)⟩
                                by_cases et : t = j
                                · subst et
                                  rw [HY5.out] at hy
                                  injection hy with hy
                                  rw [← hy]; exact HN5.out
                                · exact HNJ.out t y (by omega) hy
                              case measure => simp [intOf]; omega
                            · have HE := Lib.hid (FIN.out 7 (by rw [HC2.out, seen_some hjk HY5.out (by simpa using hq5)]; rfl) (by decide))
                              go_wp2_with fail
                              go_ret
                              exact ⟨ret_int HE.out, cur_step1 HKJ.out.1 (cur_new _ _)⟩
                          · have hje : j = k := by omega
                            have HE := Lib.hid (show oErr l k = 0 by rw [HC2.out, seen_none (by rw [← hje]; exact HNJ.out)]; rfl)
                            clear hje
                            go_wp2_with fail
                            go_roundw
                            case rel => exact ⟨k + 1, hlt, by simp, NXT.out HE.out, HKJ.out.1⟩
                            case measure => simp [intOf]; omega
                      · have h8 : decide (z.d = y.d) = true := by simpa using h6
                        cases h7 : decide (z.id ≤ y.id)
                        · have hb0 : befO l k z = false := by rw [HBT.out]; unfold badP; rw [h5, h7]; simp
                          have HC2 := Lib.hid (show oErr l k = if seenO l k z.id then 7 else 0 by rw [HC.out, hb0]; rfl)
                          clear h8
                          go_wp2_with (first
                            | (go_at_call 53; refine (name_r _ _ _ HSP.out HN1.out).mono ?_; rintro e wn ⟨rfl, hbn⟩; replace HB := Lib.hid (cur_step1 HB.out hbn); replace HK := Lib.hid (HK.out.to hbn); have d0 : wn.cell? ⟨g, 0, none⟩ = some (.int .i64 z.id) := HK.out.get (by simp); have d1 : wn.cell? ⟨g, 1, none⟩ = some (.string z.p) := HK.out.get (by simp); have d2 : wn.cell? ⟨g, 2, none⟩ = some (.int .i64 z.d) := HK.out.get (by simp); have d3 : wn.cell? ⟨g, 3, none⟩ = some (.int .i64 z.n) := HK.out.get (by simp); have hgl := HK.out.lt (b := g) (o := 2) (v := .int .i64 z.d) (by simp); clear hbn)
                            | (go_at_call 54; refine (day_r _ _ _ HD.out).mono ?_; rintro e wn ⟨rfl, rfl⟩))
                          have y0 := (HB.out.cell (p := ⟨b, off + q * 4, none⟩) hbb).trans p0
                          have y2 := (HB.out.cell (p := ⟨b, off + q * 4 + 2, none⟩) hbb).trans p2
                          have hbn2 : b < wn.heap.size := by have := HB.out.size; omega
                          go_quiet (fail)
                          have hbq := cur_drew wn nq
                          generalize wn.drewN nq = wq at hbq ⊢
                          replace HB := Lib.hid (cur_step1 HB.out hbq)
                          obtain ⟨CS, hCS⟩ : ∃ CS : List (Nat × Nat × Value), CS = [(g, 0, .int .i64 z.id), (g, 1, .string z.p), (g, 2, .int .i64 z.d), (g, 3, .int .i64 z.n)] := ⟨_, rfl⟩
                          have HCS := Lib.hid hCS
                          replace HK := Lib.hid (HK.out.to hbq)
                          rw [← hCS] at HK
                          have hkc : (k : Int) ≤ (c : Int) := by omega
                          have hkz : (0 : Int) ≤ (k : Int) := by omega
                          clear hbq hCS
                          go_wp2_with fail
                          go_loopw [86] (InQ w l CS k z.id) (fun i _ => k - (intOf i).toNat)
                          case atStart => exact ⟨0, by omega, rfl, by intro t y h; omega, HK.out⟩
                          case round =>
                            clear HK
                            obtain ⟨j, hj, rfl, hnj, hKj⟩ := hrel
                            have HNJ := Lib.hid hnj
                            have HKJ := Lib.hid hKj
                            rw [HCS.out] at hKj
                            have e0 : wr.cell? ⟨g, 0, none⟩ = some (.int .i64 z.id) := hKj.get (by simp)
                            have hgl2 := hKj.lt (b := g) (o := 0) (v := .int .i64 z.id) (by simp)
                            clear hnj hKj
                            by_cases hjk : j < k
                            · obtain ⟨y5, hy5⟩ : ∃ y5, l[j]? = some y5 := ⟨_, List.getElem?_eq_getElem (by omega)⟩
                              obtain ⟨b5, off5, h5, _, hcl5⟩ := HR.out.at_ HKJ.out.1 hy5
                              injection h5 with h5
                              injection h5 with h6 h7 _
                              subst h6 h7
                              obtain ⟨u0, u1, u2, u3⟩ := of_cells hcl5
                              have HY5 := Lib.hid hy5
                              clear hcl5 hy5
                              cases hq5 : (y5.id == z.id)
                              · have HN5 := Lib.hid (show y5.id ≠ z.id by simpa using hq5)
                                go_wp2_with fail
                                go_roundw
                                case rel =>
                                  refine ⟨j + 1, hjk, by simp, fun t y ht hy => ?_, HKJ.out.to (cur_new _ _)⟩
                                  by_cases et : t = j
                                  · subst et
                                    rw [HY5.out] at hy
                                    injection hy with hy
                                    rw [← hy]; exact HN5.out
                                  · exact HNJ.out t y (by omega) hy
                                case measure => simp [intOf]; omega
                              · have HE := Lib.hid (FIN.out 7 (by rw [HC2.out, seen_some hjk HY5.out (by simpa using hq5)]; rfl) (by decide))
                                go_wp2_with fail
                                go_ret
                                exact ⟨ret_int HE.out, cur_step1 HKJ.out.1 (cur_new _ _)⟩
                            · have hje : j = k := by omega
                              have HE := Lib.hid (show oErr l k = 0 by rw [HC2.out, seen_none (by rw [← hje]; exact HNJ.out)]; rfl)
                              clear hje
                              go_wp2_with fail
                              go_roundw
                              case rel => exact ⟨k + 1, hlt, by simp, NXT.out HE.out, HKJ.out.1⟩
                              case measure => simp [intOf]; omega
                        · have HE := Lib.hid (FIN.out 8 (by rw [HC.out, HBT.out]; unfold badP; rw [h5, h8, h7]; rfl) (by decide))
                          clear h8
                          go_wp2_with (first
                            | (go_at_call 53; refine (name_r _ _ _ HSP.out HN1.out).mono ?_; rintro e wn ⟨rfl, hbn⟩; replace HB := Lib.hid (cur_step1 HB.out hbn); replace HK := Lib.hid (HK.out.to hbn); have d0 : wn.cell? ⟨g, 0, none⟩ = some (.int .i64 z.id) := HK.out.get (by simp); have d1 : wn.cell? ⟨g, 1, none⟩ = some (.string z.p) := HK.out.get (by simp); have d2 : wn.cell? ⟨g, 2, none⟩ = some (.int .i64 z.d) := HK.out.get (by simp); have d3 : wn.cell? ⟨g, 3, none⟩ = some (.int .i64 z.n) := HK.out.get (by simp); have hgl := HK.out.lt (b := g) (o := 2) (v := .int .i64 z.d) (by simp); clear hbn)
                            | (go_at_call 54; refine (day_r _ _ _ HD.out).mono ?_; rintro e wn ⟨rfl, rfl⟩))
                          have y0 := (HB.out.cell (p := ⟨b, off + q * 4, none⟩) hbb).trans p0
                          have y2 := (HB.out.cell (p := ⟨b, off + q * 4 + 2, none⟩) hbb).trans p2
                          have hbn2 : b < wn.heap.size := by have := HB.out.size; omega
                          go_quiet (fail)
                          go_wp2_with fail
                          go_ret
                          exact ⟨ret_int HE.out, below_drewN HB.out _⟩
                    · have HE := Lib.hid (FIN.out 8 (by rw [HC.out, HBT.out]; unfold badP; rw [h5]; rfl) (by decide))
                      go_wp2_with (first
                        | (go_at_call 53; refine (name_r _ _ _ HSP.out HN1.out).mono ?_; rintro e wn ⟨rfl, hbn⟩; replace HB := Lib.hid (cur_step1 HB.out hbn); replace HK := Lib.hid (HK.out.to hbn); have d0 : wn.cell? ⟨g, 0, none⟩ = some (.int .i64 z.id) := HK.out.get (by simp); have d1 : wn.cell? ⟨g, 1, none⟩ = some (.string z.p) := HK.out.get (by simp); have d2 : wn.cell? ⟨g, 2, none⟩ = some (.int .i64 z.d) := HK.out.get (by simp); have d3 : wn.cell? ⟨g, 3, none⟩ = some (.int .i64 z.n) := HK.out.get (by simp); have hgl := HK.out.lt (b := g) (o := 2) (v := .int .i64 z.d) (by simp); clear hbn)
                        | (go_at_call 54; refine (day_r _ _ _ HD.out).mono ?_; rintro e wn ⟨rfl, rfl⟩))
                      have y0 := (HB.out.cell (p := ⟨b, off + q * 4, none⟩) hbb).trans p0
                      have y2 := (HB.out.cell (p := ⟨b, off + q * 4 + 2, none⟩) hbb).trans p2
                      have hbn2 : b < wn.heap.size := by have := HB.out.size; omega
                      go_quiet (fail)
                      go_wp2_with fail
                      go_ret
                      exact ⟨ret_int HE.out, below_drewN HB.out _⟩
                · have HE := Lib.hid (FIN.out 2 (by rw [HT.out]; simp only [errO, h1, h2, hn1, hd, h3, h4]; rfl) (by decide))
                  clear hd hn1
                  go_wp2_with (first
                    | (go_at_call 53; refine (name_r _ _ _ HSP.out HN1.out).mono ?_; rintro e wn ⟨rfl, hbn⟩; replace HB := Lib.hid (cur_step1 HB.out hbn); replace HK := Lib.hid (HK.out.to hbn); have d0 : wn.cell? ⟨g, 0, none⟩ = some (.int .i64 z.id) := HK.out.get (by simp); have d1 : wn.cell? ⟨g, 1, none⟩ = some (.string z.p) := HK.out.get (by simp); have d2 : wn.cell? ⟨g, 2, none⟩ = some (.int .i64 z.d) := HK.out.get (by simp); have d3 : wn.cell? ⟨g, 3, none⟩ = some (.int .i64 z.n) := HK.out.get (by simp); have hgl := HK.out.lt (b := g) (o := 2) (v := .int .i64 z.d) (by simp); clear hbn)
                    | (go_at_call 54; refine (day_r _ _ _ HD.out).mono ?_; rintro e wn ⟨rfl, rfl⟩))
                  go_ret
                  exact ⟨ret_int HE.out, HB.out⟩
              · have HE := Lib.hid (FIN.out 2 (by rw [HT.out]; simp only [errO, h1, h2, hn1, hd, h3]; rfl) (by decide))
                clear hd hn1
                go_wp2_with (first
                  | (go_at_call 53; refine (name_r _ _ _ HSP.out HN1.out).mono ?_; rintro e wn ⟨rfl, hbn⟩; replace HB := Lib.hid (cur_step1 HB.out hbn); replace HK := Lib.hid (HK.out.to hbn); have d0 : wn.cell? ⟨g, 0, none⟩ = some (.int .i64 z.id) := HK.out.get (by simp); have d1 : wn.cell? ⟨g, 1, none⟩ = some (.string z.p) := HK.out.get (by simp); have d2 : wn.cell? ⟨g, 2, none⟩ = some (.int .i64 z.d) := HK.out.get (by simp); have d3 : wn.cell? ⟨g, 3, none⟩ = some (.int .i64 z.n) := HK.out.get (by simp); have hgl := HK.out.lt (b := g) (o := 2) (v := .int .i64 z.d) (by simp); clear hbn)
                  | (go_at_call 54; refine (day_r _ _ _ HD.out).mono ?_; rintro e wn ⟨rfl, rfl⟩))
                go_ret
                exact ⟨ret_int HE.out, HB.out⟩
        · have HE := Lib.hid (FIN.out 2 (by rw [HT.out]; simp only [errO, h1, h2]; rfl) (by decide))
          go_wp2_with fail
          go_ret
          exact ⟨ret_int HE.out, cur_step1 HB0.out (cur_new _ _)⟩
      · have HE := Lib.hid (FIN.out 2 (by rw [HT.out]; simp only [errO, h1]; rfl) (by decide))
        go_wp2_with fail
        go_ret
        exact ⟨ret_int HE.out, cur_step1 HB0.out (cur_new _ _)⟩
    · have hke : k = l.length := by omega
      have HE := Lib.hid (show (0 : Int) = r by rw [← HV.out, ckO_end hl (by rw [← hke]; exact HNO.out)])
      go_wp2
      go_ret
      exact ⟨ret_int HE.out, HB0.out⟩
end Go.Proofs.YtpninpohligomaaGreatDoor
