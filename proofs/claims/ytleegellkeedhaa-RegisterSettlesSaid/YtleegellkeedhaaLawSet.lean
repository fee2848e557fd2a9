/-
  Chapter 54: the law RegisterSettles: the walk.
-/
import Derived.Test.YtleegellkeedhaaLawReg
namespace Go.Proofs.Ytleegellkeedhaa
open Go.RowKit
set_option maxRecDepth 100000
set_option maxHeartbeats 1000000
def SetR (w : World) (cs : List (Nat × Nat × Value)) (n : Nat) (P : Nat → Prop) (i : Value) (wr : World) : Prop := ∃ k : Nat, k ≤ n ∧ i = .int .i64 k ∧ (∀ j, j < k → P j) ∧ Keep w wr cs
def noneIn (l : List Tr) (p : ByteArray) (m d : Int) (j : Nat) : Prop := ∀ z, l[j]? = some z → ¬ (seq z.p p = true ∧ m < z.d ∧ z.d ≤ d)
theorem law_settles (WA A : Option Addr) (wc c : Nat) (ws : List Wn) (l : List Tr) (qp qt : ByteArray) (qd : Int) (w : World) (hwl : ws.length ≤ 9223372036854775807) (hwc : ws.length ≤ wc) (hl : l.length ≤ 9223372036854775807) (hc : l.length ≤ c) (hwr : Rd wnE 2 w w.heap.size WA ws) (hr : Rd trE 3 w w.heap.size A l)
    (hsz : ∀ z ∈ l, z.p.size ≤ 9223372036854775807 ∧ z.t.size ≤ 9223372036854775807) (hqd : -9223372036854775808 ≤ qd ∧ qd ≤ 9223372036854775807) :
    Calls Try.prog 4 #[.agg #[.slice WA ws.length wc, .slice A l.length c], .agg #[.string qp, .string qt, .int .i64 qd]] w fun e w' => e = .returned (.bool true) ∧ Below w.heap.size w w' := by
  have HW := Lib.hid (hwr.pre 6)
  have HR := Lib.hid (hr.pre 16)
  obtain ⟨ws', hws'⟩ : ∃ ws', ws' = ws.take 6 := ⟨_, rfl⟩
  obtain ⟨l', hl'⟩ : ∃ l', l' = l.take 16 := ⟨_, rfl⟩
  have hwl' : ws'.length ≤ 32 := by rw [hws', few_len]; omega
  have hll' : l'.length ≤ 2000 := by rw [hl', few_len]; omega
  have HSZ := Lib.hid (show ∀ (k : Nat) z, l'[k]? = some z → z.p.size ≤ 9223372036854775807 ∧ z.t.size ≤ 9223372036854775807 from fun k z h => hsz z (List.take_subset 16 l (by rw [← hl']; exact List.mem_of_getElem? h)))
  have e1 : min ws.length 6 = ws'.length := by rw [hws', few_len]
  have e2 : min l.length 16 = l'.length := by rw [hl', few_len]
  rw [← hws'] at HW
  rw [← hl'] at HR
  have HF := Lib.hid (few_f WA A wc ws.length c l.length)
  rw [e1, e2] at HF
  obtain ⟨r1, r2, hck⟩ : ∃ r1 r2, ckT ws' l' = (r1, r2) := ⟨_, _, rfl⟩
  have HCK := Lib.hid hck
  clear hwr hr hsz hws' hl' e1 e2 hck
  go_enter Try.func4, Try.ntmps4
  go_wp2_with fail
  obtain ⟨ha, hq, hb0⟩ := entry2 w [.slice WA ws.length wc, .slice A l.length c] [.string qp, .string qt, .int .i64 qd] 25 36
  generalize (w.alloc (Obj.cells #[.slice WA ws.length wc, .slice A l.length c] 25)).alloc (Obj.cells #[.string qp, .string qt, .int .i64 qd] 36) = w0 at ha hq hb0 ⊢
  refine (awake_any _).mono ?_
  rintro e w1 ⟨rfl, hb1⟩
  have HA := Lib.hid (ha.to hb1)
  have HQ := Lib.hid (hq.to hb1)
  have HB := Lib.hid (cur_step1 hb0 hb1)
  have c0 : w1.cell? ⟨w.heap.size, 0, none⟩ = some (.slice WA ws.length wc) := HA.out.cell 0
  have c1 : w1.cell? ⟨w.heap.size, 1, none⟩ = some (.slice A l.length c) := HA.out.cell 1
  clear ha hq hb0 hb1
  go_wp2_with (go_at_call 9; refine (HF.out _ hl hc hwl hwc).mono ?_; rintro e w2 ⟨rfl, hb2⟩; have hx2 := HA.out.to hb2; have hq2 := HQ.out.to hb2; have d0 : w2.cell? ⟨w.heap.size, 0, none⟩ = some (.slice WA ws.length wc) := hx2.cell 0; have d1 : w2.cell? ⟨w.heap.size, 1, none⟩ = some (.slice A l.length c) := hx2.cell 1; have f0 := hx2.frozen 0; have f1 := hx2.frozen 1)
  have hx3 : Blk ((w2.setCell ⟨w.heap.size, 0, none⟩ (.slice WA ws'.length wc)).setCell ⟨w.heap.size, 1, none⟩ (.slice A l'.length c)) w.heap.size 25 [.slice WA ws'.length wc, .slice A l'.length c] := (hx2.set 0 (.slice WA ws'.length wc)).set 1 (.slice A l'.length c)
  have hq3 := (hq2.other (g' := w.heap.size) (by omega) 0 (.slice WA ws'.length wc)).other (g' := w.heap.size) (by omega) 1 (.slice A l'.length c)
  have hb3 := below_set (below_set (cur_step1 HB.out hb2) (Nat.le_refl _) 0 (.slice WA ws'.length wc)) (Nat.le_refl _) 1 (.slice A l'.length c)
  generalize (w2.setCell ⟨w.heap.size, 0, none⟩ (.slice WA ws'.length wc)).setCell ⟨w.heap.size, 1, none⟩ (.slice A l'.length c) = w3 at hx3 hq3 hb3 ⊢
  have HK3 := Lib.hid (show Keep w w3 [(w.heap.size, 0, .slice WA ws'.length wc), (w.heap.size, 1, .slice A l'.length c), (w.heap.size + 1, 0, .string qp), (w.heap.size + 1, 2, .int .i64 qd)] from ⟨hb3, fun c hc => by simp at hc; rcases hc with rfl | rfl | rfl | rfl; exact ⟨hx3.lt, hx3.cell 0⟩; exact ⟨hx3.lt, hx3.cell 1⟩; exact ⟨hq3.lt, hq3.cell 0⟩; exact ⟨hq3.lt, hq3.cell 2⟩⟩)
  clear hx3 hq3 hb3 hx2 hq2 d0 d1 f0 f1 c0 c1 hb2 HA HQ HB
  refine (ck_p WA wc ws' A c l' r1 r2 w3 hwl' hll' (HW.out.to HK3.out.1) (HR.out.to HK3.out.1) HSZ.out HCK.out).mono ?_
  rintro e w4 ⟨rfl, hb4⟩
  have HK4 := Lib.hid (HK3.out.to hb4)
  clear hb4 HK3
  have c0 : w4.cell? ⟨w.heap.size, 0, none⟩ = some (.slice WA ws'.length wc) := HK4.out.get (by simp)
  have c1 : w4.cell? ⟨w.heap.size, 1, none⟩ = some (.slice A l'.length c) := HK4.out.get (by simp)
  have c2 : w4.cell? ⟨w.heap.size + 1, 0, none⟩ = some (.string qp) := HK4.out.get (by simp)
  have c3 : w4.cell? ⟨w.heap.size + 1, 2, none⟩ = some (.int .i64 qd) := HK4.out.get (by simp)
  by_cases hr2 : r2 = 0
  · subst hr2
    obtain ⟨u, hu⟩ : ∃ u, teamB l' qp qd = u := ⟨_, rfl⟩
    have HU := Lib.hid hu
    clear hu
    have hl6 : l'.length ≤ 1000000 := by omega
    go_wp2_with fail
    refine (team_p A c l' qp qd u w4 hl6 (HR.out.to HK4.out.1) HU.out).mono ?_
    rintro e w5 ⟨rfl, hb5⟩
    have HK5 := Lib.hid (HK4.out.to hb5)
    have d0 : w5.cell? ⟨w.heap.size, 0, none⟩ = some (.slice WA ws'.length wc) := HK5.out.get (by simp)
    have d1 : w5.cell? ⟨w.heap.size, 1, none⟩ = some (.slice A l'.length c) := HK5.out.get (by simp)
    clear hb5 c0 c1 c2 c3 HK4
    go_wp2_with fail
    obtain ⟨CS, hCS⟩ : ∃ CS : List (Nat × Nat × Value), CS = [(w.heap.size, 0, .slice WA ws'.length wc), (w.heap.size, 1, .slice A l'.length c), (w.heap.size + 1, 0, .string qp), (w.heap.size + 1, 2, .int .i64 qd)] := ⟨_, rfl⟩
    rw [← hCS] at HK5
    have HCS := Lib.hid hCS
    clear hCS d0 d1
    go_loopw [36] (SetR w CS l'.length (fun _ => True)) (fun i _ => l'.length - (intOf i).toNat)
    case atStart => exact ⟨0, by omega, rfl, fun _ _ => trivial, HK5.out⟩
    case round =>
      obtain ⟨k, hk, rfl, _, hK⟩ := hrel
      have HK := Lib.hid hK
      rw [HCS.out] at hK
      have c0 : wr.cell? ⟨w.heap.size, 0, none⟩ = some (.slice WA ws'.length wc) := hK.get (by simp)
      have c1 : wr.cell? ⟨w.heap.size, 1, none⟩ = some (.slice A l'.length c) := hK.get (by simp)
      have c2 : wr.cell? ⟨w.heap.size + 1, 0, none⟩ = some (.string qp) := hK.get (by simp)
      have c3 : wr.cell? ⟨w.heap.size + 1, 2, none⟩ = some (.int .i64 qd) := hK.get (by simp)
      have l1 := hK.lt (b := w.heap.size) (o := 0) (v := .slice WA ws'.length wc) (by simp)
      have l2 := hK.lt (b := w.heap.size + 1) (o := 0) (v := .string qp) (by simp)
      clear hK HK5
      by_cases hlt : k < l'.length
      · obtain ⟨z, hz⟩ : ∃ z, l'[k]? = some z := ⟨_, List.getElem?_eq_getElem hlt⟩
        obtain ⟨b, off, rfl, hbb, hcl⟩ := HR.out.at_ HK.out.1 hz
        obtain ⟨p0, p1, p2⟩ := tr_cells hcl
        have es := seq_to z.t u
        clear hcl hz
        cases hs : seq z.t u
        · rw [hs] at es
          have HE := Lib.hid (elig_not (l := l') (p := qp) (d := qd) (t := z.t) (by rw [HU.out]; exact hs))
          clear hs
          go_wp2_with (go_at_call 14; refine (elig_p _ c l' qp z.t qd false _ hl6 (HR.out.to (cur_step1 HK.out.1 (cur_new _ _))) HE.out).mono ?_; rintro e w6 ⟨rfl, hb6⟩)
          go_roundw
          case rel => exact ⟨k + 1, hlt, by simp, fun _ _ => trivial, (HK.out.to (cur_new _ _)).to hb6⟩
          case measure => simp [intOf]; omega
        · rw [hs] at es
          clear hs
          go_wp2_with fail
          go_roundw
          case rel => exact ⟨k + 1, hlt, by simp, fun _ _ => trivial, HK.out.to (cur_new _ _)⟩
          case measure => simp [intOf]; omega
      · have hke : k = l'.length := by omega
        subst hke
        clear hk hlt
        go_wp2_with fail
        obtain ⟨m, hm⟩ : ∃ m, IntKind.i64.wrap (qd - 7) = m := ⟨_, rfl⟩
        have HM := Lib.hid hm
        have HK0 := Lib.hid HK.out
        clear HK c0 c1 c2 c3 l1 l2
        go_loopw [59] (SetR w CS l'.length (noneIn l' qp m qd)) (fun i _ => l'.length - (intOf i).toNat)
        case atStart => exact ⟨0, by omega, rfl, fun j hj => by omega, HK0.out⟩
        case round =>
          clear HK0
          obtain ⟨k, hk, rfl, hno, hK⟩ := hrel
          have HNO := Lib.hid hno
          have HK := Lib.hid hK
          rw [HCS.out] at hK
          have c0 : wr.cell? ⟨w.heap.size, 0, none⟩ = some (.slice WA ws'.length wc) := hK.get (by simp)
          have c1 : wr.cell? ⟨w.heap.size, 1, none⟩ = some (.slice A l'.length c) := hK.get (by simp)
          have c2 : wr.cell? ⟨w.heap.size + 1, 0, none⟩ = some (.string qp) := hK.get (by simp)
          have c3 : wr.cell? ⟨w.heap.size + 1, 2, none⟩ = some (.int .i64 qd) := hK.get (by simp)
          have l1 := hK.lt (b := w.heap.size) (o := 0) (v := .slice WA ws'.length wc) (by simp)
          have l2 := hK.lt (b := w.heap.size + 1) (o := 0) (v := .string qp) (by simp)
          clear hK hno
          by_cases hlt : k < l'.length
          · obtain ⟨z, hz⟩ : ∃ z, l'[k]? = some z := ⟨_, List.getElem?_eq_getElem hlt⟩
            obtain ⟨b, off, rfl, hbb, hcl⟩ := HR.out.at_ HK.out.1 hz
            obtain ⟨p0, p1, p2⟩ := tr_cells hcl
            have HZ := Lib.hid hz
            have es := seq_to z.p qp
            clear hcl hz
            cases hs : seq z.p qp
            · rw [hs] at es
              have HN := Lib.hid (show ¬ (seq z.p qp = true ∧ m < z.d ∧ z.d ≤ qd) by rw [hs]; simp)
              clear hs
              go_wp2_with fail
              go_roundw
              case rel =>
                refine ⟨k + 1, hlt, by simp, fun j hj y hy => ?_, HK.out.to (cur_new _ _)⟩
                by_cases e : j = k
                · subst e
                  rw [HZ.out] at hy
                  injection hy with hy
                  subst hy
                  exact HN.out
                · exact HNO.out j (by omega) y hy
              case measure => simp [intOf]; omega
            · rw [hs] at es
              cases h1 : decide (m < z.d)
              · have HN := Lib.hid (show ¬ (seq z.p qp = true ∧ m < z.d ∧ z.d ≤ qd) by intro h; exact absurd h.2.1 (of_decide_eq_false h1))
                clear hs
                go_wp2_with fail
                go_roundw
                case rel =>
                  refine ⟨k + 1, hlt, by simp, fun j hj y hy => ?_, HK.out.to (cur_new _ _)⟩
                  by_cases e : j = k
                  · subst e
                    rw [HZ.out] at hy
                    injection hy with hy
                    subst hy
                    exact HN.out
                  · exact HNO.out j (by omega) y hy
                case measure => simp [intOf]; omega
              · cases h2 : decide (z.d ≤ qd)
                · have HN := Lib.hid (show ¬ (seq z.p qp = true ∧ m < z.d ∧ z.d ≤ qd) by intro h; exact absurd h.2.2 (of_decide_eq_false h2))
                  clear hs
                  go_wp2_with fail
                  go_roundw
                  case rel =>
                    refine ⟨k + 1, hlt, by simp, fun j hj y hy => ?_, HK.out.to (cur_new _ _)⟩
                    by_cases e : j = k
                    · subst e
                      rw [HZ.out] at hy
                      injection hy with hy
                      subst hy
                      exact HN.out
                    · exact HNO.out j (by omega) y hy
                  case measure => simp [intOf]; omega
                · clear hs
                  go_wp2_with fail
                  go_ret
                  exact ⟨rfl, HK.out.1.trans ((cur_new _ _).mono HK.out.1.size)⟩
          · have hke : k = l'.length := by omega
            subst hke
            clear hk hlt
            have eu := isE_to u
            cases hue : isE u
            · rw [hue] at eu
              cases hq : decide (qd < 0)
              · have hq0 : ¬ qd < 0 := of_decide_eq_false hq
                have hmq : m = qd - 7 := by rw [← HM.out]; simp [IntKind.wrap, IntKind.bits, IntKind.signed]; omega
                have HE := Lib.hid (show eligB l' qp u qd = true by
                  have h := settle (w := ws') (l := l') (p := qp) (d := qd) (by rw [HCK.out]) (by omega) (fun k z hz h => by
                    have hk := (List.getElem?_eq_some_iff.1 hz).1
                    exact HNO.out k hk z hz ⟨h.1, by rw [hmq]; exact h.2.1, h.2.2⟩) (by rw [HU.out]; exact hue)
                  rw [HU.out] at h
                  exact h)
                clear hue hmq
                go_wp2_with (go_at_call 14; refine (elig_p _ c l' qp u qd true _ hl6 (HR.out.to HK.out.1) HE.out).mono ?_; rintro e w6 ⟨rfl, hb6⟩)
                go_ret
                exact ⟨rfl, cur_step1 HK.out.1 hb6⟩
              · clear hue
                go_wp2_with fail
                go_ret
                exact ⟨rfl, HK.out.1⟩
            · rw [hue] at eu
              clear hue
              go_wp2_with fail
              go_ret
              exact ⟨rfl, HK.out.1⟩
  · have hrn : (r2 == 0) = false := by simpa using hr2
    go_wp2_with fail
    go_ret
    exact ⟨rfl, HK4.out.1⟩
end Go.Proofs.Ytleegellkeedhaa
