/-
  Chapter 54: Add of the reference.
-/
import Derived.Test.YtleegellkeedhaaPlA54
import Derived.Test.YtleegellkeedhaaCkR54
namespace Go.Proofs.Ytleegellkeedhaa
open Go.RowKit
set_option maxRecDepth 100000
set_option maxHeartbeats 1000000
def AdR (w : World) (l : List Tr) (t : Tr) (o p i : Value) (wr : World) : Prop := ∃ (k : Nat) (L : List Tr) (A : Option Addr) (c : Nat) (b : Bool), k ≤ l.length ∧ i = .int .i64 k ∧ p = .bool b ∧ b = decide (posA l t < k) ∧ L = Lp l t k ∧ o = .slice A L.length c ∧ OwnL trE 3 38 w.heap.size wr (.slice A L.length c) L ∧ (∀ (j : Nat) (x : Tr), j < k → l[j]? = some x → eqPD t x = false) ∧ Below w.heap.size w wr
theorem add_r (WA : Option Addr) (wc : Nat) (ws : List Wn) (A : Option Addr) (c : Nat) (l : List Tr) (t : Tr) (R : List Tr) (E : Int) (w : World) (hwl : ws.length ≤ 32) (hl : l.length ≤ 1000) (hwr : Rd wnE 2 w w.heap.size WA ws) (hr : Rd trE 3 w w.heap.size A l)
    (hsz : ∀ z ∈ l, z.p.size ≤ 9223372036854775807 ∧ z.t.size ≤ 9223372036854775807) (hst : t.p.size ≤ 9223372036854775807 ∧ t.t.size ≤ 9223372036854775807) (hs : addS ws l t = (R, E)) :
    Calls Try.prog 16 #[.slice WA ws.length wc, .slice A l.length c, .agg #[.string t.p, .string t.t, .int .i64 t.d]] w fun e w' => ∃ A2 c2, e = .returned (.tuple #[.slice A2 R.length c2, .int .i64 E]) ∧ Rd trE 3 w' w'.heap.size A2 R ∧ Below w.heap.size w w' := by
  have HWR := Lib.hid hwr
  have HR := Lib.hid hr
  have HSZ := Lib.hid (show ∀ (k : Nat) z, l[k]? = some z → z.p.size ≤ 9223372036854775807 ∧ z.t.size ≤ 9223372036854775807 from fun k z h => hsz z (List.mem_of_getElem? h))
  have HSI := Lib.hid (show ∀ (k : Nat) z, (insA l t)[k]? = some z → z.p.size ≤ 9223372036854775807 ∧ z.t.size ≤ 9223372036854775807 from fun k z h => by
    have hm := List.mem_of_getElem? h
    unfold insA at hm
    rcases List.mem_append.1 hm with h1 | h1
    · exact hsz z (List.mem_of_mem_take h1)
    · rcases List.mem_cons.1 h1 with rfl | h1
      · exact hst
      · exact hsz z (List.mem_of_mem_drop h1))
  obtain ⟨r1, r2, hck⟩ : ∃ r1 r2, ckT ws l = (r1, r2) := ⟨_, _, rfl⟩
  have HCK := Lib.hid hck
  clear hwr hr hsz
  have hbk := Blk.new w 38 [.string t.p, .string t.t, .int .i64 t.d]
  have hbx := cur_new w (.cells #[.string t.p, .string t.t, .int .i64 t.d] 38)
  by_cases hr2 : r2 = 0
  · subst hr2
    have HS := Lib.hid (show (if decide (0 ≤ findI (eqPD t) l 0) then ([], 7) else if (ckT ws (insA l t)).2 ≠ 0 then ([], (ckT ws (insA l t)).2) else (insA l t, 0)) = (R, E) by
        rw [← hs]; unfold addS; rw [hck]; rfl)
    clear hs hck
    go_enter Try.func16, Try.ntmps16
    go_wp2_with fail
    generalize w.alloc (Obj.cells #[.string t.p, .string t.t, .int .i64 t.d] 38) = w0 at hbk hbx ⊢
    have HB := Lib.hid hbx
    have HK := Lib.hid hbk
    clear hbk hbx
    refine (ck_r WA wc ws A c l r1 0 w0 hwl (by omega) (HWR.out.to HB.out) (HR.out.to HB.out) HSZ.out HCK.out).mono ?_
    rintro e w1 ⟨rfl, hb1⟩
    replace HB := Lib.hid (cur_step1 HB.out hb1)
    replace HK := Lib.hid (HK.out.to hb1)
    clear hb1
    go_wp2_with fail
    have hsl : w.heap.size < w1.heap.size := HK.out.lt
    have hown0 : OwnL trE 3 38 w1.heap.size (w1.alloc (Obj.cells #[] 38)) (.slice (some ⟨w1.heap.size, 0, none⟩) ([] : List Tr).length 0) [] := ⟨rfl, .inr ⟨w1.heap.size, 0, _, rfl, Nat.le_refl _, heap_alloc_new w1 _, by simp, by unfold maxLen; omega, by simp, by simp⟩⟩
    have HO0 := Lib.hid hown0
    clear hown0
    go_loopw [10, 11, 28] (AdR w1 l t) (fun _ _ i _ => l.length - (intOf i).toNat)
    case atStart => exact ⟨0, [], some ⟨w1.heap.size, 0, none⟩, 0, false, by omega, rfl, rfl, rfl, (Lp_zero l t).symm, rfl, HO0.out, fun j x h => by omega, cur_new _ _⟩
    case round =>
      clear HO0
      obtain ⟨k, L, A3, c3, bp, hk, rfl, rfl, hbp, hL, rfl, hown, hno, hB⟩ := hrel
      have HL := Lib.hid hL
      have HO := Lib.hid hown
      have HBr := Lib.hid hB
      have HB4 := Lib.hid (cur_step1 HB.out hB)
      have HNO := Lib.hid hno
      have HBP := Lib.hid hbp
      have hLl : L.length ≤ 1001 := by rw [hL]; have := Lp_len l t k hk; omega
      have hbk := HK.out.to hB
      have t0 := hbk.cell 0
      have t1 := hbk.cell 1
      have t2 := hbk.cell 2
      have htl := hbk.lt
      have hb1 := hB.size
      simp only [List.getElem?_cons_zero, List.getElem?_cons_succ] at t0 t1 t2
      have HBK := Lib.hid hbk
      clear hL hown hB hno hbp hbk
      by_cases hlt : k < l.length
      · obtain ⟨x, hx⟩ : ∃ x, l[k]? = some x := ⟨_, List.getElem?_eq_getElem hlt⟩
        obtain ⟨b, off, rfl, hbb, hcl⟩ := HR.out.at_ HB4.out hx
        obtain ⟨p0, p1, p2⟩ := tr_cells hcl
        have HX := Lib.hid hx
        have es := seq_to x.p t.p
        have sl := slt_to t.p x.p
        have sl2 := slt_to x.p t.p
        have hpa := (posA_spec l t).1
        have hpb := (posA_spec l t).2
        have hgr := gt_ref t x
        have HPA := Lib.hid (fun h => hpa k x h hx)
        have HPB := Lib.hid (fun h : posA l t = k => hpb x (by rw [h]; exact hx))
        have hww : w.heap.size ≤ w1.heap.size := HB.out.size
        clear hcl hx hpa hpb
        cases hsq : seq x.p t.p
        · rw [hsq] at es
          have HEF := Lib.hid (show eqPD t x = false by unfold eqPD; rw [hsq]; rfl)
          have HSQ := Lib.hid hsq
          clear hsq
          have HNE := Lib.hid (show ∀ (j : Nat) (y : Tr), j < k + 1 → l[j]? = some y → eqPD t y = false from fun j y hj hy => by
            by_cases e : j = k
            · subst e
              rw [HX.out] at hy
              injection hy with hy
              subst hy
              exact HEF.out
            · exact HNO.out j y (by omega) hy)
          clear HEF
          by_cases hpk : posA l t < k
          · have hbt : bp = true := by rw [HBP.out]; exact decide_eq_true hpk
            subst hbt
            have HN := Lib.hid (show L ++ [x] = Lp l t (k + 1) by rw [Lp_after hpk HX.out, ← HL.out])
            have HBN := Lib.hid (show true = decide (posA l t < k + 1) from (decide_eq_true (by omega)).symm)
            clear hpk HPA HPB hgr sl sl2
            go_wp2_with (at_builtin; refine wpList_app1 Try.trElem _ rfl (.tmp 71) (.tmp 73) rfl w1.heap.size A3 c3 L rfl ?o1 x (wr.heap.size + 1) 1 rfl ?o2 ?o3 ?o4 ?o5 ?_)
            case o1 => exact own_below HO.out (cur_two _ _ _) (Nat.le_refl _)
            case o2 => first | exact two_new _ _ _ | exact (Array.getElem?_eq_some_iff.1 (two_new _ _ _)).2
            case o3 => unfold maxLen; omega
            case o4 => omega
            case o5 => first | omega | (simp; omega)
            intro g cap w6 ha
            obtain ⟨hb2, ho2⟩ := app1_end HBr.out (fun b hb => (own_range HO.out b hb).1) (cur_two _ _ _) ha
            have HO3 := Lib.hid ho2
            have HB6 := Lib.hid hb2
            clear ha ho2 hb2
            go_wp2_with fail
            go_roundw
            case rel => exact ⟨k + 1, L ++ [x], some ⟨g, 0, none⟩, cap, _, hlt, by simp, rfl, HBN.out, HN.out, by simp, HO3.out, HNE.out, HB6.out⟩
            case measure => simp [intOf]; omega
          · have hbt : bp = false := by rw [HBP.out]; exact decide_eq_false hpk
            subst hbt
            by_cases hpe : posA l t = k
            · have hgt := HPB.out hpe
              rw [hgr] at hgt
              have HN := Lib.hid (show (L ++ [t]) ++ [x] = Lp l t (k + 1) by rw [Lp_at hpe HX.out, ← HL.out])
              have HBN := Lib.hid (show true = decide (posA l t < k + 1) from (decide_eq_true (by omega)).symm)
              clear hpk hpe HPA HPB hgr
              by_cases hdt : t.d < x.d
              · clear hgt sl sl2
                have hxb := Blk.new wr 38 [.string x.p, .string x.t, .int .i64 x.d]
                have hxc := cur_new wr (.cells #[.string x.p, .string x.t, .int .i64 x.d] 38)
                go_wp2_with (at_builtin; refine wpList_app1 Try.trElem _ rfl (.tmp 67) (.tmp 69) rfl w1.heap.size A3 c3 L rfl ?o1 t (wr.heap.size + 1) 1 rfl ?o2 ?o3 ?o4 ?o5 ?_)
                case o1 => exact own_below HO.out (cur_two _ _ _) (Nat.le_refl _)
                case o2 => first | exact two_new _ _ _ | exact (Array.getElem?_eq_some_iff.1 (two_new _ _ _)).2
                case o3 => unfold maxLen; omega
                case o4 => omega
                case o5 => first | omega | (simp; omega)
                intro g cap w6 ha
                have hrg := own_range HO.out
                have hkx : Keep w1 (wr.alloc (.cells #[.string x.p, .string x.t, .int .i64 x.d] 38)) [(wr.heap.size, 0, .string x.p), (wr.heap.size, 1, .string x.t), (wr.heap.size, 2, .int .i64 x.d)] := ⟨cur_step1 HBr.out hxc, fun c hc => by simp at hc; rcases hc with rfl | rfl | rfl; exact ⟨hxb.lt, hxb.cell 0⟩; exact ⟨hxb.lt, hxb.cell 1⟩; exact ⟨hxb.lt, hxb.cell 2⟩⟩
                have hk6 := hkx.app (cur_new _ _) ha (fun b hb => (hrg b hb).1) (fun c hc e => by have h1 := (hrg _ e).2; simp at hc; rcases hc with rfl | rfl | rfl <;> simp at h1)
                obtain ⟨hb2, ho2⟩ := app1_end HBr.out (fun b hb => (own_range HO.out b hb).1) (cur_two _ _ _) ha
                have HO3 := Lib.hid ho2
                have HB6 := Lib.hid hb2
                have x0 : w6.cell? ⟨wr.heap.size, 0, none⟩ = some (.string x.p) := hk6.get (by simp)
                have x1 : w6.cell? ⟨wr.heap.size, 1, none⟩ = some (.string x.t) := hk6.get (by simp)
                have x2 : w6.cell? ⟨wr.heap.size, 2, none⟩ = some (.int .i64 x.d) := hk6.get (by simp)
                have xl := hk6.lt (b := wr.heap.size) (o := 0) (v := .string x.p) (by simp)
                obtain ⟨M, hM⟩ : ∃ M, M = L ++ [t] := ⟨_, rfl⟩
                have hMl : L.length + 1 = M.length := by rw [hM]; simp
                rw [hMl]
                rw [← hM] at HO3 HN
                have hMk : M.length ≤ 1002 := by omega
                clear ha ho2 hb2 hk6 hkx hxb hxc hM hMl
                go_wp2_with (at_builtin; refine wpList_app1 Try.trElem _ rfl (.tmp 71) (.tmp 73) rfl w1.heap.size (some ⟨g, 0, none⟩) cap M rfl ?o1 x w6.heap.size 1 rfl ?o2 ?o3 ?o4 ?o5 ?_)
                case o1 => exact own_below HO3.out (cur_new _ _) (Nat.le_refl _)
                case o2 => first | exact heap_alloc_new _ _ | exact (Array.getElem?_eq_some_iff.1 (heap_alloc_new _ _)).2
                case o3 => unfold maxLen; omega
                case o4 => omega
                case o5 => have := HB6.out.size; first | omega | (simp; omega)
                intro g2 cap2 w7 ha
                obtain ⟨hb2, ho2⟩ := app1_end HB6.out (fun b hb => (own_range HO3.out b hb).1) (cur_new _ _) ha
                have HO4 := Lib.hid ho2
                have HB7 := Lib.hid hb2
                clear ha ho2 hb2
                go_wp2_with fail
                go_roundw
                case rel => exact ⟨k + 1, M ++ [x], some ⟨g2, 0, none⟩, cap2, _, hlt, by simp, rfl, HBN.out, HN.out, by simp, HO4.out, HNE.out, HB7.out⟩
                case measure => simp [intOf]; omega
              · have hde : x.d = t.d := by
                  simp only [decide_eq_false hdt, Bool.false_or, Bool.and_eq_true, decide_eq_true_eq] at hgt
                  exact hgt.1
                have hsl2 : slt t.p x.p = true := by
                  simp only [decide_eq_false hdt, Bool.false_or, Bool.and_eq_true, decide_eq_true_eq] at hgt
                  exact hgt.2
                rw [hsl2] at sl
                rw [show slt x.p t.p = false from less_asymm _ _ hsl2] at sl2
                have hdi : (x.d == t.d) = true := by simpa using hde
                clear hgt hsl2 hde
                have hxb := Blk.new wr 38 [.string x.p, .string x.t, .int .i64 x.d]
                have hxc := cur_new wr (.cells #[.string x.p, .string x.t, .int .i64 x.d] 38)
                go_wp2_with (at_builtin; refine wpList_app1 Try.trElem _ rfl (.tmp 67) (.tmp 69) rfl w1.heap.size A3 c3 L rfl ?o1 t (wr.heap.size + 1) 1 rfl ?o2 ?o3 ?o4 ?o5 ?_)
                case o1 => exact own_below HO.out (cur_two _ _ _) (Nat.le_refl _)
                case o2 => first | exact two_new _ _ _ | exact (Array.getElem?_eq_some_iff.1 (two_new _ _ _)).2
                case o3 => unfold maxLen; omega
                case o4 => omega
                case o5 => first | omega | (simp; omega)
                intro g cap w6 ha
                have hrg := own_range HO.out
                have hkx : Keep w1 (wr.alloc (.cells #[.string x.p, .string x.t, .int .i64 x.d] 38)) [(wr.heap.size, 0, .string x.p), (wr.heap.size, 1, .string x.t), (wr.heap.size, 2, .int .i64 x.d)] := ⟨cur_step1 HBr.out hxc, fun c hc => by simp at hc; rcases hc with rfl | rfl | rfl; exact ⟨hxb.lt, hxb.cell 0⟩; exact ⟨hxb.lt, hxb.cell 1⟩; exact ⟨hxb.lt, hxb.cell 2⟩⟩
                have hk6 := hkx.app (cur_new _ _) ha (fun b hb => (hrg b hb).1) (fun c hc e => by have h1 := (hrg _ e).2; simp at hc; rcases hc with rfl | rfl | rfl <;> simp at h1)
                obtain ⟨hb2, ho2⟩ := app1_end HBr.out (fun b hb => (own_range HO.out b hb).1) (cur_two _ _ _) ha
                have HO3 := Lib.hid ho2
                have HB6 := Lib.hid hb2
                have x0 : w6.cell? ⟨wr.heap.size, 0, none⟩ = some (.string x.p) := hk6.get (by simp)
                have x1 : w6.cell? ⟨wr.heap.size, 1, none⟩ = some (.string x.t) := hk6.get (by simp)
                have x2 : w6.cell? ⟨wr.heap.size, 2, none⟩ = some (.int .i64 x.d) := hk6.get (by simp)
                have xl := hk6.lt (b := wr.heap.size) (o := 0) (v := .string x.p) (by simp)
                obtain ⟨M, hM⟩ : ∃ M, M = L ++ [t] := ⟨_, rfl⟩
                have hMl : L.length + 1 = M.length := by rw [hM]; simp
                rw [hMl]
                rw [← hM] at HO3 HN
                have hMk : M.length ≤ 1002 := by omega
                clear ha ho2 hb2 hk6 hkx hxb hxc hM hMl
                go_wp2_with (at_builtin; refine wpList_app1 Try.trElem _ rfl (.tmp 71) (.tmp 73) rfl w1.heap.size (some ⟨g, 0, none⟩) cap M rfl ?o1 x w6.heap.size 1 rfl ?o2 ?o3 ?o4 ?o5 ?_)
                case o1 => exact own_below HO3.out (cur_new _ _) (Nat.le_refl _)
                case o2 => first | exact heap_alloc_new _ _ | exact (Array.getElem?_eq_some_iff.1 (heap_alloc_new _ _)).2
                case o3 => unfold maxLen; omega
                case o4 => omega
                case o5 => have := HB6.out.size; first | omega | (simp; omega)
                intro g2 cap2 w7 ha
                obtain ⟨hb2, ho2⟩ := app1_end HB6.out (fun b hb => (own_range HO3.out b hb).1) (cur_new _ _) ha
                have HO4 := Lib.hid ho2
                have HB7 := Lib.hid hb2
                clear ha ho2 hb2
                go_wp2_with fail
                go_roundw
                case rel => exact ⟨k + 1, M ++ [x], some ⟨g2, 0, none⟩, cap2, _, hlt, by simp, rfl, HBN.out, HN.out, by simp, HO4.out, HNE.out, HB7.out⟩
                case measure => simp [intOf]; omega
            · have hgt := HPA.out (by omega)
              rw [hgr] at hgt
              have HN := Lib.hid (show L ++ [x] = Lp l t (k + 1) by rw [Lp_before (by omega) HX.out, ← HL.out])
              have HBN := Lib.hid (show false = decide (posA l t < k + 1) from (decide_eq_false (by omega)).symm)
              clear hpk hpe HPA HPB hgr
              have hdt : ¬ t.d < x.d := by
                intro h
                rw [decide_eq_true h, Bool.true_or] at hgt
                cases hgt
              by_cases hde : x.d = t.d
              · have hsl2 : slt t.p x.p = false := by
                  simp only [decide_eq_false hdt, Bool.false_or, decide_eq_true hde, Bool.true_and] at hgt
                  exact hgt
                rw [hsl2] at sl
                rw [show slt x.p t.p = true from less_total _ _ hsl2 (fun e => by have h := HSQ.out; unfold seq at h; rw [e] at h; simp at h)] at sl2
                have hdi : (x.d == t.d) = true := by simpa using hde
                clear hgt hsl2 hde
                go_wp2_with (at_builtin; refine wpList_app1 Try.trElem _ rfl (.tmp 71) (.tmp 73) rfl w1.heap.size A3 c3 L rfl ?o1 x (wr.heap.size + 1) 1 rfl ?o2 ?o3 ?o4 ?o5 ?_)
                case o1 => exact own_below HO.out (cur_two _ _ _) (Nat.le_refl _)
                case o2 => first | exact two_new _ _ _ | exact (Array.getElem?_eq_some_iff.1 (two_new _ _ _)).2
                case o3 => unfold maxLen; omega
                case o4 => omega
                case o5 => first | omega | (simp; omega)
                intro g cap w6 ha
                obtain ⟨hb2, ho2⟩ := app1_end HBr.out (fun b hb => (own_range HO.out b hb).1) (cur_two _ _ _) ha
                have HO3 := Lib.hid ho2
                have HB6 := Lib.hid hb2
                clear ha ho2 hb2
                go_wp2_with fail
                go_roundw
                case rel => exact ⟨k + 1, L ++ [x], some ⟨g, 0, none⟩, cap, _, hlt, by simp, rfl, HBN.out, HN.out, by simp, HO3.out, HNE.out, HB6.out⟩
                case measure => simp [intOf]; omega
              · clear hgt sl sl2
                go_wp2_with (at_builtin; refine wpList_app1 Try.trElem _ rfl (.tmp 71) (.tmp 73) rfl w1.heap.size A3 c3 L rfl ?o1 x (wr.heap.size + 1) 1 rfl ?o2 ?o3 ?o4 ?o5 ?_)
                case o1 => exact own_below HO.out (cur_two _ _ _) (Nat.le_refl _)
                case o2 => first | exact two_new _ _ _ | exact (Array.getElem?_eq_some_iff.1 (two_new _ _ _)).2
                case o3 => unfold maxLen; omega
                case o4 => omega
                case o5 => first | omega | (simp; omega)
                intro g cap w6 ha
                obtain ⟨hb2, ho2⟩ := app1_end HBr.out (fun b hb => (own_range HO.out b hb).1) (cur_two _ _ _) ha
                have HO3 := Lib.hid ho2
                have HB6 := Lib.hid hb2
                clear ha ho2 hb2
                go_wp2_with fail
                go_roundw
                case rel => exact ⟨k + 1, L ++ [x], some ⟨g, 0, none⟩, cap, _, hlt, by simp, rfl, HBN.out, HN.out, by simp, HO3.out, HNE.out, HB6.out⟩
                case measure => simp [intOf]; omega
        · rw [hsq] at es
          by_cases hdne : x.d = t.d
          · have HEF := Lib.hid (show eqPD t x = true by unfold eqPD; rw [hsq, hdne]; simp)
            have hS := HS.out
            rw [find_some HX.out HEF.out] at hS
            injection hS with h1 h2
            subst h1 h2
            clear hsq HEF HPA HPB hgr sl sl2
            go_wp2_with fail
            go_ret2
            exact ⟨none, 0, rfl, Rd.nil_, (cur_step1 HB4.out (cur_new _ _))⟩
          · have HEF := Lib.hid (show eqPD t x = false by unfold eqPD; rw [hsq]; simpa using hdne)
            clear hsq
            have HNE := Lib.hid (show ∀ (j : Nat) (y : Tr), j < k + 1 → l[j]? = some y → eqPD t y = false from fun j y hj hy => by
              by_cases e : j = k
              · subst e
                rw [HX.out] at hy
                injection hy with hy
                subst hy
                exact HEF.out
              · exact HNO.out j y (by omega) hy)
            clear HEF
            by_cases hpk : posA l t < k
            · have hbt : bp = true := by rw [HBP.out]; exact decide_eq_true hpk
              subst hbt
              have HN := Lib.hid (show L ++ [x] = Lp l t (k + 1) by rw [Lp_after hpk HX.out, ← HL.out])
              have HBN := Lib.hid (show true = decide (posA l t < k + 1) from (decide_eq_true (by omega)).symm)
              clear hpk HPA HPB hgr sl sl2
              go_wp2_with (at_builtin; refine wpList_app1 Try.trElem _ rfl (.tmp 71) (.tmp 73) rfl w1.heap.size A3 c3 L rfl ?o1 x (wr.heap.size + 1) 1 rfl ?o2 ?o3 ?o4 ?o5 ?_)
              case o1 => exact own_below HO.out (cur_two _ _ _) (Nat.le_refl _)
              case o2 => first | exact two_new _ _ _ | exact (Array.getElem?_eq_some_iff.1 (two_new _ _ _)).2
              case o3 => unfold maxLen; omega
              case o4 => omega
              case o5 => first | omega | (simp; omega)
              intro g cap w6 ha
              obtain ⟨hb2, ho2⟩ := app1_end HBr.out (fun b hb => (own_range HO.out b hb).1) (cur_two _ _ _) ha
              have HO3 := Lib.hid ho2
              have HB6 := Lib.hid hb2
              clear ha ho2 hb2
              go_wp2_with fail
              go_roundw
              case rel => exact ⟨k + 1, L ++ [x], some ⟨g, 0, none⟩, cap, _, hlt, by simp, rfl, HBN.out, HN.out, by simp, HO3.out, HNE.out, HB6.out⟩
              case measure => simp [intOf]; omega
            · have hbt : bp = false := by rw [HBP.out]; exact decide_eq_false hpk
              subst hbt
              by_cases hpe : posA l t = k
              · have hgt := HPB.out hpe
                rw [hgr] at hgt
                have HN := Lib.hid (show (L ++ [t]) ++ [x] = Lp l t (k + 1) by rw [Lp_at hpe HX.out, ← HL.out])
                have HBN := Lib.hid (show true = decide (posA l t < k + 1) from (decide_eq_true (by omega)).symm)
                clear hpk hpe HPA HPB hgr
                by_cases hdt : t.d < x.d
                · clear hgt sl sl2
                  have hxb := Blk.new wr 38 [.string x.p, .string x.t, .int .i64 x.d]
                  have hxc := cur_new wr (.cells #[.string x.p, .string x.t, .int .i64 x.d] 38)
                  go_wp2_with (at_builtin; refine wpList_app1 Try.trElem _ rfl (.tmp 67) (.tmp 69) rfl w1.heap.size A3 c3 L rfl ?o1 t (wr.heap.size + 1) 1 rfl ?o2 ?o3 ?o4 ?o5 ?_)
                  case o1 => exact own_below HO.out (cur_two _ _ _) (Nat.le_refl _)
                  case o2 => first | exact two_new _ _ _ | exact (Array.getElem?_eq_some_iff.1 (two_new _ _ _)).2
                  case o3 => unfold maxLen; omega
                  case o4 => omega
                  case o5 => first | omega | (simp; omega)
                  intro g cap w6 ha
                  have hrg := own_range HO.out
                  have hkx : Keep w1 (wr.alloc (.cells #[.string x.p, .string x.t, .int .i64 x.d] 38)) [(wr.heap.size, 0, .string x.p), (wr.heap.size, 1, .string x.t), (wr.heap.size, 2, .int .i64 x.d)] := ⟨cur_step1 HBr.out hxc, fun c hc => by simp at hc; rcases hc with rfl | rfl | rfl; exact ⟨hxb.lt, hxb.cell 0⟩; exact ⟨hxb.lt, hxb.cell 1⟩; exact ⟨hxb.lt, hxb.cell 2⟩⟩
                  have hk6 := hkx.app (cur_new _ _) ha (fun b hb => (hrg b hb).1) (fun c hc e => by have h1 := (hrg _ e).2; simp at hc; rcases hc with rfl | rfl | rfl <;> simp at h1)
                  obtain ⟨hb2, ho2⟩ := app1_end HBr.out (fun b hb => (own_range HO.out b hb).1) (cur_two _ _ _) ha
                  have HO3 := Lib.hid ho2
                  have HB6 := Lib.hid hb2
                  have x0 : w6.cell? ⟨wr.heap.size, 0, none⟩ = some (.string x.p) := hk6.get (by simp)
                  have x1 : w6.cell? ⟨wr.heap.size, 1, none⟩ = some (.string x.t) := hk6.get (by simp)
                  have x2 : w6.cell? ⟨wr.heap.size, 2, none⟩ = some (.int .i64 x.d) := hk6.get (by simp)
                  have xl := hk6.lt (b := wr.heap.size) (o := 0) (v := .string x.p) (by simp)
                  obtain ⟨M, hM⟩ : ∃ M, M = L ++ [t] := ⟨_, rfl⟩
                  have hMl : L.length + 1 = M.length := by rw [hM]; simp
                  rw [hMl]
                  rw [← hM] at HO3 HN
                  have hMk : M.length ≤ 1002 := by omega
                  clear ha ho2 hb2 hk6 hkx hxb hxc hM hMl
                  go_wp2_with (at_builtin; refine wpList_app1 Try.trElem _ rfl (.tmp 71) (.tmp 73) rfl w1.heap.size (some ⟨g, 0, none⟩) cap M rfl ?o1 x w6.heap.size 1 rfl ?o2 ?o3 ?o4 ?o5 ?_)
                  case o1 => exact own_below HO3.out (cur_new _ _) (Nat.le_refl _)
                  case o2 => first | exact heap_alloc_new _ _ | exact (Array.getElem?_eq_some_iff.1 (heap_alloc_new _ _)).2
                  case o3 => unfold maxLen; omega
                  case o4 => omega
                  case o5 => have := HB6.out.size; first | omega | (simp; omega)
                  intro g2 cap2 w7 ha
                  obtain ⟨hb2, ho2⟩ := app1_end HB6.out (fun b hb => (own_range HO3.out b hb).1) (cur_new _ _) ha
                  have HO4 := Lib.hid ho2
                  have HB7 := Lib.hid hb2
                  clear ha ho2 hb2
                  go_wp2_with fail
                  go_roundw
                  case rel => exact ⟨k + 1, M ++ [x], some ⟨g2, 0, none⟩, cap2, _, hlt, by simp, rfl, HBN.out, HN.out, by simp, HO4.out, HNE.out, HB7.out⟩
                  case measure => simp [intOf]; omega
                · exfalso
                  simp only [decide_eq_false hdt, decide_eq_false hdne, Bool.false_and, Bool.or_false] at hgt
                  cases hgt
              · have hgt := HPA.out (by omega)
                rw [hgr] at hgt
                have HN := Lib.hid (show L ++ [x] = Lp l t (k + 1) by rw [Lp_before (by omega) HX.out, ← HL.out])
                have HBN := Lib.hid (show false = decide (posA l t < k + 1) from (decide_eq_false (by omega)).symm)
                clear hpk hpe HPA HPB hgr
                have hdt : ¬ t.d < x.d := by
                  intro h
                  rw [decide_eq_true h, Bool.true_or] at hgt
                  cases hgt
                clear hgt sl sl2
                go_wp2_with (at_builtin; refine wpList_app1 Try.trElem _ rfl (.tmp 71) (.tmp 73) rfl w1.heap.size A3 c3 L rfl ?o1 x (wr.heap.size + 1) 1 rfl ?o2 ?o3 ?o4 ?o5 ?_)
                case o1 => exact own_below HO.out (cur_two _ _ _) (Nat.le_refl _)
                case o2 => first | exact two_new _ _ _ | exact (Array.getElem?_eq_some_iff.1 (two_new _ _ _)).2
                case o3 => unfold maxLen; omega
                case o4 => omega
                case o5 => first | omega | (simp; omega)
                intro g cap w6 ha
                obtain ⟨hb2, ho2⟩ := app1_end HBr.out (fun b hb => (own_range HO.out b hb).1) (cur_two _ _ _) ha
                have HO3 := Lib.hid ho2
                have HB6 := Lib.hid hb2
                clear ha ho2 hb2
                go_wp2_with fail
                go_roundw
                case rel => exact ⟨k + 1, L ++ [x], some ⟨g, 0, none⟩, cap, _, hlt, by simp, rfl, HBN.out, HN.out, by simp, HO3.out, HNE.out, HB6.out⟩
                case measure => simp [intOf]; omega
      · have hke : k = l.length := by omega
        subst hke
        clear hk hlt
        obtain ⟨q1, q2, hck2⟩ : ∃ q1 q2, ckT ws (insA l t) = (q1, q2) := ⟨_, _, rfl⟩
        have HCK2 := Lib.hid hck2
        clear hck2
        by_cases hpk : posA l t < l.length
        · have hbt : bp = true := by rw [HBP.out]; exact decide_eq_true hpk
          subst hbt
          have HM := Lib.hid (show L = insA l t by rw [HL.out, Lp_end hpk])
          clear hpk HBP
          obtain ⟨A4, c4, e4, hrd4, _⟩ := HO.out.rd trE_len
          injection e4 with e41 e42 e43
          subst e41 e43
          have HRM := Lib.hid hrd4
          have HB8 := Lib.hid HB4.out
          clear hrd4
          have HCM := Lib.hid (show ckT ws L = (q1, q2) by rw [HM.out]; exact HCK2.out)
          have HSM := Lib.hid (show ∀ (k : Nat) z, (L)[k]? = some z → z.p.size ≤ 9223372036854775807 ∧ z.t.size ≤ 9223372036854775807 by rw [HM.out]; exact HSI.out)
          by_cases hq2 : q2 = 0
          · subst hq2
            have HS2 := Lib.hid (show (insA l t, (0 : Int)) = (R, E) by
              have h := HS.out
              rw [find_none HNO.out, HCK2.out, if_neg (by simp)] at h
              rw [if_neg (by simp)] at h; exact h)
            have HS3 := Lib.hid (show insA l t = R ∧ (0 : Int) = E by have h := HS2.out; injection h with h1 h2; exact ⟨h1, h2⟩)
            clear HS HS2
            go_wp2_with (go_at_call 11; refine (ck_r WA wc ws A3 c3 L q1 0 _ hwl (by omega) (HWR.out.to HB8.out) HRM.out HSM.out HCM.out).mono ?_; rintro e w9 ⟨rfl, hb9⟩; have HB9 := Lib.hid (cur_step1 HB8.out hb9); have HR9 := Lib.hid (HRM.out.to hb9); clear hb9)
            obtain ⟨h1, h2⟩ := HS3.out
            subst h1 h2
            go_ret2
            rw [← HM.out]
            exact ⟨_, _, rfl, HR9.out, HB9.out⟩
          · have hqn : (q2 == 0) = false := by simpa using hq2
            have HS2 := Lib.hid (show (([] : List Tr), q2) = (R, E) by
              have h := HS.out
              rw [find_none HNO.out, HCK2.out, if_neg (by simp)] at h
              rw [if_pos hq2] at h; exact h)
            have HS3 := Lib.hid (show ([] : List Tr) = R ∧ q2 = E by have h := HS2.out; injection h with h1 h2; exact ⟨h1, h2⟩)
            clear HS HS2
            go_wp2_with (go_at_call 11; refine (ck_r WA wc ws A3 c3 L q1 q2 _ hwl (by omega) (HWR.out.to HB8.out) HRM.out HSM.out HCM.out).mono ?_; rintro e w9 ⟨rfl, hb9⟩; have HB9 := Lib.hid (cur_step1 HB8.out hb9); have HR9 := Lib.hid (HRM.out.to hb9); clear hb9)
            obtain ⟨h1, h2⟩ := HS3.out
            subst h1 h2
            go_ret2
            exact ⟨none, 0, rfl, Rd.nil_, HB9.out⟩
        · have hbt : bp = false := by rw [HBP.out]; exact decide_eq_false hpk
          subst hbt
          have HM0 := Lib.hid (show L ++ [t] = insA l t by rw [HL.out, Lp_endn hpk])
          clear hpk HBP
          go_wp2_with (at_builtin; refine wpList_app1 Try.trElem _ rfl (.tmp 78) (.tmp 80) rfl w1.heap.size A3 c3 L rfl ?o1 t wr.heap.size 1 rfl ?o2 ?o3 ?o4 ?o5 ?_)
          case o1 => exact own_below HO.out (cur_new _ _) (Nat.le_refl _)
          case o2 => first | exact heap_alloc_new _ _ | exact (Array.getElem?_eq_some_iff.1 (heap_alloc_new _ _)).2
          case o3 => unfold maxLen; omega
          case o4 => omega
          case o5 => first | omega | (simp; omega)
          intro g cap w6 ha
          obtain ⟨hb2, ho2⟩ := app1_end HBr.out (fun b hb => (own_range HO.out b hb).1) (cur_new _ _) ha
          obtain ⟨M, hM⟩ : ∃ M, M = L ++ [t] := ⟨_, rfl⟩
          have hMl : L.length + 1 = M.length := by rw [hM]; simp
          have hMk : M.length ≤ 1002 := by omega
          rw [hMl]
          have HM := Lib.hid (show M = insA l t by rw [hM]; exact HM0.out)
          rw [← hM] at ho2
          obtain ⟨A4, c4, e4, hrd4, _⟩ := ho2.rd trE_len
          injection e4 with e41 e42 e43
          subst e41 e43
          have HRM := Lib.hid hrd4
          have HB8 := Lib.hid (cur_step1 HB.out hb2)
          clear ha ho2 hb2 hM hMl HM0 hrd4
          have HCM := Lib.hid (show ckT ws M = (q1, q2) by rw [HM.out]; exact HCK2.out)
          have HSM := Lib.hid (show ∀ (k : Nat) z, (M)[k]? = some z → z.p.size ≤ 9223372036854775807 ∧ z.t.size ≤ 9223372036854775807 by rw [HM.out]; exact HSI.out)
          by_cases hq2 : q2 = 0
          · subst hq2
            have HS2 := Lib.hid (show (insA l t, (0 : Int)) = (R, E) by
              have h := HS.out
              rw [find_none HNO.out, HCK2.out, if_neg (by simp)] at h
              rw [if_neg (by simp)] at h; exact h)
            have HS3 := Lib.hid (show insA l t = R ∧ (0 : Int) = E by have h := HS2.out; injection h with h1 h2; exact ⟨h1, h2⟩)
            clear HS HS2
            go_wp2_with (go_at_call 11; refine (ck_r WA wc ws (some ⟨g, 0, none⟩) cap M q1 0 _ hwl (by omega) (HWR.out.to HB8.out) HRM.out HSM.out HCM.out).mono ?_; rintro e w9 ⟨rfl, hb9⟩; have HB9 := Lib.hid (cur_step1 HB8.out hb9); have HR9 := Lib.hid (HRM.out.to hb9); clear hb9)
            obtain ⟨h1, h2⟩ := HS3.out
            subst h1 h2
            go_ret2
            rw [← HM.out]
            exact ⟨_, _, rfl, HR9.out, HB9.out⟩
          · have hqn : (q2 == 0) = false := by simpa using hq2
            have HS2 := Lib.hid (show (([] : List Tr), q2) = (R, E) by
              have h := HS.out
              rw [find_none HNO.out, HCK2.out, if_neg (by simp)] at h
              rw [if_pos hq2] at h; exact h)
            have HS3 := Lib.hid (show ([] : List Tr) = R ∧ q2 = E by have h := HS2.out; injection h with h1 h2; exact ⟨h1, h2⟩)
            clear HS HS2
            go_wp2_with (go_at_call 11; refine (ck_r WA wc ws (some ⟨g, 0, none⟩) cap M q1 q2 _ hwl (by omega) (HWR.out.to HB8.out) HRM.out HSM.out HCM.out).mono ?_; rintro e w9 ⟨rfl, hb9⟩; have HB9 := Lib.hid (cur_step1 HB8.out hb9); have HR9 := Lib.hid (HRM.out.to hb9); clear hb9)
            obtain ⟨h1, h2⟩ := HS3.out
            subst h1 h2
            go_ret2
            exact ⟨none, 0, rfl, Rd.nil_, HB9.out⟩
  · have hrn : (r2 == 0) = false := by simpa using hr2
    have HS := Lib.hid (show ([] : List Tr) = R ∧ r2 = E by have h := hs; unfold addS at h; rw [hck, if_pos hr2] at h; injection h with a b; exact ⟨a, b⟩)
    obtain ⟨h1, h2⟩ := HS.out
    subst h1 h2
    clear hs hck
    go_enter Try.func16, Try.ntmps16
    go_wp2_with fail
    generalize w.alloc (Obj.cells #[.string t.p, .string t.t, .int .i64 t.d] 38) = w0 at hbk hbx ⊢
    refine (ck_r WA wc ws A c l r1 r2 w0 hwl (by omega) (HWR.out.to hbx) (HR.out.to hbx) HSZ.out HCK.out).mono ?_
    rintro e w1 ⟨rfl, hb1⟩
    go_wp2_with fail
    go_ret2
    exact ⟨none, 0, rfl, Rd.nil_, cur_step1 hbx hb1⟩
end Go.Proofs.Ytleegellkeedhaa
