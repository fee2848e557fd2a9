/-
  Chapter 55: the least pair of a match: the walk.
-/
import Derived.Test.YtckbhdokfkabfaaRow55
set_option linter.unusedSimpArgs false
set_option linter.unusedVariables false
namespace Go.Proofs.Ytckbhdokfkabfaa
open Go.RowKit
set_option maxRecDepth 100000
set_option maxHeartbeats 8000000
def prL (a b : Int) : List Value := [.int .i64 a, .int .i64 b]
/-- What stands behind k of the two steps: both cells of the pair. -/
def prK (may : List (List Bool)) (need : List Nat) (us : List Int) (n m k : Nat) : List Value := prL (if 1 ≤ k then (stK may need us n m 1).p else 0) (if 2 ≤ k then (stK may need us n m 2).p else 0)
structure ChI (B : Nat) (x : Mx) (rows : List Rw) (b4 b5 : Nat) (w0 : World) (s : ChS) (pr : List Value) (w : World) : Prop where
  mat : MatS B x rows s.need s.us w
  far : Far (adB x.U ++ adB x.N) w0 w
  c4 : Blk w b4 65 (prL 0 0)
  c5 : Blk w b5 65 pr
theorem ChI.to {B : Nat} {x : Mx} {rows : List Rw} {b4 b5 : Nat} {w0 w w' : World} {s : ChS} {pr : List Value} (h : ChI B x rows b4 b5 w0 s pr w) (hb : Below w.heap.size w w') : ChI B x rows b4 b5 w0 s pr w' := ⟨h.mat.to hb, h.far.trans (Far.of (bs := []) hb) (fun y hy => by simp at hy), h.c4.to hb, h.c5.to hb⟩
theorem choose_p (B : Nat) (x : Mx) (rows : List Rw) (need : List Nat) (us : List Int) (m : Nat) (w : World) (hnu : x.nu ≤ 1000) (hnm : x.nm ≤ 1000) (hm : m < x.nm) (hf : Fresh us) (h2 : need[m]?.getD 0 = 2) (hn2 : ∀ k ∈ need, k ≤ 2) (h : MatS B x rows need us w) :
    Calls Try.prog 35 #[.pointer (some ⟨x.bX, 0, none⟩), .int .i64 (m : Int)] w fun e w' => e = .returned (.agg #[.int .i64 (chooseF (mayR rows) need us x.nu m).1.1, .int .i64 (chooseF (mayR rows) need us x.nu m).1.2]) ∧ MatS B x rows (chooseF (mayR rows) need us x.nu m).2.1 (chooseF (mayR rows) need us x.nu m).2.2 w' ∧ Far (adB x.U ++ adB x.N) w w' := by
  rw [choose_st]
  dsimp only
  have HOK0 := Lib.hid (show StOk x.nm x.nu m 0 (stK (mayR rows) need us x.nu m 0) from ⟨hf, h.lu, h.ln, by show (-1 : Int) ≤ -1; omega, by show (-1 : Int) < _; omega, by show 2 ≤ need[m]?.getD 0 + 0; omega, hn2⟩)
  have HOK := Lib.hid (show ∀ k, StOk x.nm x.nu m k (stK (mayR rows) need us x.nu m k) from fun k => by
    induction k with
    | zero => exact HOK0.out
    | succ k ih => exact ih.next hm)
  obtain ⟨w1, hw1⟩ : ∃ W, w.alloc (.cells (prL 0 0).toArray 65) = W := ⟨_, rfl⟩
  obtain ⟨w2, hw2⟩ : ∃ W, w1.alloc (.cells (prL 0 0).toArray 65) = W := ⟨_, rfl⟩
  have hb1 : Below w.heap.size w w1 := by rw [← hw1]; exact cur_new _ _
  have hb2 : Below w1.heap.size w1 w2 := by rw [← hw2]; exact cur_new _ _
  have hk1 : Blk w1 w.heap.size 65 (prL 0 0) := by rw [← hw1]; exact Blk.new _ _ _
  have hk2 : Blk w2 w1.heap.size 65 (prL 0 0) := by rw [← hw2]; exact Blk.new _ _ _
  have HS1 := Lib.hid (show w1.heap.size = w.heap.size + 1 by rw [← hw1]; simp)
  have HI := Lib.hid (show ChI B x rows w.heap.size (w.heap.size + 1) w (stK (mayR rows) need us x.nu m 0) (prK (mayR rows) need us x.nu m 0) w2 from ⟨(h.to hb1).to hb2, (Far.of (cur_step1 hb1 hb2)), hk1.to hb2, by rw [← HS1.out]; exact hk2⟩)
  have S1 := Lib.hid (show (w.alloc (.cells (prL 0 0).toArray 65)).alloc (.cells (prL 0 0).toArray 65) = w2 by rw [hw1, hw2])
  have HXB := Lib.hid (show ∀ b ∈ x.bs rows, b < w.heap.size from fun b hb => (h.inB b hb).2)
  clear hb1 hb2 hk1 hk2 hw1 hw2 h hf h2 hn2 HS1
  go_enter Try.func35, Try.ntmps35
  go_upto_region 2 with (fail)
  change Code.wp _ _ _ _ ((w.alloc (.cells (prL 0 0).toArray 65)).alloc (.cells (prL 0 0).toArray 65))
  rw [S1.out]
  obtain ⟨b4, hb4⟩ : ∃ b, w.heap.size = b := ⟨_, rfl⟩
  obtain ⟨b5, hb5⟩ : ∃ b, w.heap.size + 1 = b := ⟨_, rfl⟩
  rw [hb5] at HI ⊢
  rw [hb4] at HI HXB ⊢
  have HB45 := Lib.hid (show b5 = b4 + 1 ∧ w.heap.size = b4 by omega)
  clear hb4 hb5 S1
  go_wp2_with (fail)
  go_loopw [6, 11] (fun v iv wr => ∃ k : Nat, k ≤ 2 ∧ v = .int .i64 (stK (mayR rows) need us x.nu m k).least ∧ iv = .int .i64 k ∧ ChI B x rows b4 b5 w (stK (mayR rows) need us x.nu m k) (prK (mayR rows) need us x.nu m k) wr) (fun _ i _ => 2 - (intOf i).toNat)
  case atStart => exact ⟨0, by omega, rfl, rfl, HI.out⟩
  case round =>
    clear HI
    obtain ⟨k, hk, rfl, rfl, hI⟩ := hrel
    have HI := Lib.hid hI
    clear hI
    by_cases hk2 : k < 2
    · have gk : decide ((k : Int) < 2) = true := decide_eq_true (by omega)
      have HSO := Lib.hid (HOK.out k)
      have HNX := Lib.hid (show stK (mayR rows) need us x.nu m (k + 1) = chS (mayR rows) x.nu m (stK (mayR rows) need us x.nu m k) from rfl)
      obtain ⟨s, hs⟩ : ∃ s, stK (mayR rows) need us x.nu m k = s := ⟨_, rfl⟩
      rw [hs] at HI HSO HNX ⊢
      obtain ⟨lo, hlo⟩ : ∃ lo : Nat, s.least + 1 = (lo : Int) := ⟨(s.least + 1).toNat, by have := HSO.out.lo; omega⟩
      have hlo2 : lo ≤ x.nu := by have := HSO.out.hi; omega
      have HLO := Lib.hid (show (s.least + 1).toNat = lo by omega)
      have hlob : -1 ≤ s.least := HSO.out.lo
      have hhib : s.least < 1000 := by have := HSO.out.hi; omega
      obtain ⟨R, hR⟩ : ∃ R, chF (mayR rows) s.need s.us x.nu m (x.nu - lo) lo = R := ⟨_, rfl⟩
      have HR := Lib.hid hR
      have HR0 := Lib.hid hR
      have HST := Lib.hid hs
      clear hs hR
      go_wp2_with (fail)
      go_loopw [6, 8] (fun v iv wr2 => ∃ u : Nat, u ≤ x.nu ∧ v = .int .i64 s.least ∧ iv = .int .i64 u ∧ chF (mayR rows) s.need s.us x.nu m (x.nu - u) u = R ∧ ChI B x rows b4 b5 w s (prK (mayR rows) need us x.nu m k) wr2) (fun _ i _ => x.nu - (intOf i).toNat)
      case atStart => exact ⟨lo, hlo2, rfl, by rw [← hlo], HR.out, HI.out⟩
      case round =>
        clear HI HR
        obtain ⟨u, hu, rfl, rfl, hR, hI⟩ := hrel
        have HR := Lib.hid hR
        have HI := Lib.hid hI
        clear hR hI
        by_cases hul : u < x.nu
        · rename World => wo
          obtain ⟨r, hr⟩ : ∃ r, rows[m]? = some r := ⟨_, List.getElem?_eq_getElem (by rw [HI.out.mat.lr]; exact hm)⟩
          obtain ⟨gR, hgR, cR, -, hgRl, -, -⟩ := own1_at (rwE_len x.nu) HI.out.mat.outer hr rfl
          obtain ⟨hrow, hrl⟩ := HI.out.mat.row r (List.mem_of_getElem? hr)
          obtain ⟨b, hb⟩ : ∃ b, r.r[u]? = some b := ⟨_, List.getElem?_eq_getElem (by rw [hrl]; exact hul)⟩
          obtain ⟨gr, hgr, cr, -, hgrl, -, -⟩ := own1_at boE_len hrow hb rfl
          obtain ⟨gU, hgU, cU, -, hgUl, -, -⟩ := own1_at iE_len HI.out.mat.hused (uG_at (by rw [HI.out.mat.lu]; exact hul)) rfl
          obtain ⟨c0, -, c2, cl⟩ := HI.out.mat.cells
          have HBG := Lib.hid (show bG (rG (mayR rows) m) u = b by rw [rG_may hr]; exact bG_at hb)
          have HRG := Lib.hid (rG_may hr)
          have HRA := Lib.hid (show (mayR rows)[m]? = some r.r by unfold mayR; rw [List.getElem?_map, hr]; rfl)
          have HRL := Lib.hid hrl
          obtain ⟨z, hz⟩ : ∃ z, uG s.us u = z := ⟨_, rfl⟩
          rw [hz] at cU
          have HZ := Lib.hid hz
          have hzf := HSO.out.fresh u
          rw [hz] at hzf
          have HR2 := Lib.hid (show (if b = false ∨ z = -2 then chF (mayR rows) s.need s.us x.nu m (x.nu - (u + 1)) (u + 1) else if tryF (mayR rows) s.need s.us x.nu m u = [] then some u else chF (mayR rows) s.need s.us x.nu m (x.nu - (u + 1)) (u + 1)) = R by
            have e := HR.out
            rw [show x.nu - u = (x.nu - (u + 1)) + 1 by omega] at e
            unfold chF at e
            rwa [HBG.out, HZ.out] at e)
          rw [hgR] at c0
          rw [hgU] at c2
          rw [hgr] at cR
          have HGr := Lib.hid hgr
          have hu1000 : u < 1000 := by omega
          have hm1000 : m < 1000 := by omega
          clear hrow hrl hb hr hgR hgU hgr hz HR
          by_cases hskip : b = false ∨ z = -2
          · have HN := Lib.hid (show chF (mayR rows) s.need s.us x.nu m (x.nu - (u + 1)) (u + 1) = R by have e := HR2.out; rwa [if_pos hskip] at e)
            cases b
            · clear hskip hzf
              go_wp2_with (fail)
              go_roundw
              case rel => exact ⟨u + 1, by omega, rfl, by simp, HN.out, HI.out⟩
              case measure => simp [intOf]; omega
            · have hz2 : z = -2 := by simpa using hskip
              subst hz2
              clear hskip hzf
              go_wp2_with (fail)
              go_roundw
              case rel => exact ⟨u + 1, by omega, rfl, by simp, HN.out, HI.out⟩
              case measure => simp [intOf]; omega
          · obtain rfl : b = true := by
              cases b
              · exact (hskip (Or.inl rfl)).elim
              · rfl
            obtain rfl : z = -1 := hzf.resolve_left (fun e => hskip (Or.inr e))
            have HR3 := Lib.hid (show (if tryF (mayR rows) s.need s.us x.nu m u = [] then some u else chF (mayR rows) s.need s.us x.nu m (x.nu - (u + 1)) (u + 1)) = R by have e := HR2.out; rwa [if_neg hskip] at e)
            clear hskip hzf HR2
            go_wp2_with (fail)
            refine (copied_p B x rows s.need s.us _ hnu hnm HI.out.mat).mono ?_
            rintro e w5 ⟨y, rows', rfl, hm5, hmay, hynm, hynu, hb5⟩
            have HM5 := Lib.hid hm5
            have HB5 := Lib.hid hb5
            have HMAY := Lib.hid hmay
            have HYM := Lib.hid hynm
            have HYU := Lib.hid hynu
            clear hm5 hb5 hmay hynm hynu c0 c2 cR cr cU
            go_wp2_with (fail)
            refine (take_p _ y rows' s.need s.us m u w5 (by rw [HYU.out]; exact hnu) (by rw [HYM.out]; exact hnm) (by rw [HYM.out]; exact hm) (by rw [HYU.out]; exact hul) (by have := HSO.out.n1; omega) (by
              have h3 : s.need[m]?.getD 0 ≤ 2 := by
                rw [List.getElem?_eq_getElem (by rw [HSO.out.nl]; exact hm)]
                exact HSO.out.n2 _ (List.getElem_mem _)
              omega) HM5.out).mono ?_
            rintro e w6 ⟨rfl, hm6, hf6⟩
            obtain ⟨need', hneed'⟩ : ∃ n', s.need.set m (s.need[m]?.getD 0 - 1) = n' := ⟨_, rfl⟩
            rw [hneed'] at hm6
            have HM6 := Lib.hid hm6
            have HNE := Lib.hid hneed'
            have hyb := HM5.out.inB
            have HB6 := Lib.hid (show Below wo.heap.size wo w6 from HB5.out.trans (hf6.below HB5.out.size (fun b hb => by
              rcases List.mem_append.1 hb with e | e
              · exact (hyb b (by simp [Mx.bs, e])).1
              · exact (hyb b (by simp [Mx.bs, e])).1)))
            clear hm6 hneed' hyb hf6 HM5 HB5
            go_wp2_with (fail)
            go_loopw [53] (fun iv wr3 => ∃ (i : Nat) (rows'' : List Rw), i ≤ u ∧ iv = .int .i64 i ∧ MatS wo.heap.size y rows'' need' (s.us.set u (-2)) wr3 ∧ mayR rows'' = (mayR rows).set m (cutR r.r i) ∧ Below wo.heap.size wo wr3) (fun i _ => u - (intOf i).toNat)
            case atStart => exact ⟨0, rows', by omega, rfl, HM6.out, by rw [HMAY.out]; exact (List.ext_getElem? (fun j => by
              by_cases e : j = m
              · subst e; rw [List.getElem?_set_self (List.getElem?_eq_some_iff.1 HRA.out).1]; exact HRA.out
              · rw [List.getElem?_set_ne (fun x => e x.symm)])), HB6.out⟩
            case round =>
              clear HM6 HB6
              obtain ⟨i, rows'', hi, rfl, hm7, hmay7, hb7⟩ := hrel
              have HM7 := Lib.hid hm7
              have HMAY7 := Lib.hid hmay7
              have HB7 := Lib.hid hb7
              clear hm7 hmay7 hb7
              have hmrl : m < (mayR rows).length := (List.getElem?_eq_some_iff.1 HRA.out).1
              by_cases hiu : i < u
              · obtain ⟨r2, hr2⟩ : ∃ r2, rows''[m]? = some r2 := ⟨_, List.getElem?_eq_getElem (by rw [HM7.out.lr, HYM.out]; exact hm)⟩
                have hr2r : r2.r = cutR r.r i := by
                  have h1 := congrArg (·[m]?) HMAY7.out
                  simp only [mayR, List.getElem?_map, hr2, Option.map_some] at h1
                  rw [List.getElem?_set_self (by simpa [mayR] using hmrl)] at h1
                  exact Option.some.inj h1
                obtain ⟨g2, hg2, cR2, -, hg2l, -, -⟩ := own1_at (rwE_len y.nu) HM7.out.outer hr2 rfl
                obtain ⟨hrow2, hrl2⟩ := HM7.out.row r2 (List.mem_of_getElem? hr2)
                obtain ⟨bv, hbv⟩ : ∃ bv, r2.r[i]? = some bv := ⟨_, List.getElem?_eq_getElem (by rw [hrl2, HYU.out]; omega)⟩
                obtain ⟨g3, hg3, c3, f3, hg3l, -, -⟩ := own1_at boE_len hrow2 hbv rfl
                obtain ⟨d0, -, -, dl⟩ := HM7.out.cells
                have HM8 := Lib.hid (HM7.out.setRow (i := i) hr2 hg3 false)
                have HMAY8 := Lib.hid (show mayR (rows''.set m ⟨r2.a, r2.c, r2.r.set i false⟩) = (mayR rows).set m (cutR r.r (i + 1)) by
                  rw [mayR_set, HMAY7.out, List.set_set, hr2r]; rfl)
                have HB8 := Lib.hid (show Below wo.heap.size wo _ from HB7.out.trans ((Far.cell _ g3 i (.bool false)).below HB7.out.size (fun q hq => by simp at hq; subst hq; exact (own_in hrow2 q (by rw [hg3]; simp [adB])).1)))
                rw [hg2] at d0
                rw [hg3, HYU.out] at cR2
                rw [HYM.out] at d0
                clear hrow2 hrl2 hbv hr2 hr2r hg2 hg3
                go_wp2_with (fail)
                go_roundw
                case rel => exact ⟨i + 1, _, by omega, by simp, HM8.out, HMAY8.out, HB8.out⟩
                case measure => simp [intOf]; omega
              · have hiu2 : i = u := by omega
                subst hiu2
                have HVAL := Lib.hid (show Val (mayR rows'') y.nm (s.us.set i (-2)) from (fresh_bar HSO.out.fresh i).val)
                have HTRY := Lib.hid (show (fillF (mayR rows'') y.nu need' 0 (s.us.set i (-2)) []).1 = tryF (mayR rows) s.need s.us x.nu m i by
                  rw [HMAY7.out, ← HNE.out, HYU.out]; unfold tryF; rw [HRG.out])
                go_wp2_with (fail)
                refine (fill_p _ y rows'' need' (s.us.set i (-2)) _ (by rw [HYU.out]; exact hnu) (by rw [HYM.out]; exact hnm) (fun q hq => by
                  rw [← HNE.out] at hq
                  rcases List.mem_or_eq_of_mem_set hq with e | e
                  · have := HSO.out.n2 q e; omega
                  · have h3 : s.need[m]?.getD 0 ≤ 2 := by
                      rw [List.getElem?_eq_getElem (by rw [HSO.out.nl]; exact hm)]
                      exact HSO.out.n2 _ (List.getElem_mem _)
                    omega) HM7.out HVAL.out).mono ?_
                rw [HTRY.out]
                rintro e w9 ⟨A9, c9, rfl, ho9, hI9⟩
                have hyb := HM7.out.inB
                have HB9 := Lib.hid (show Below wo.heap.size wo w9 from HB7.out.trans (hI9.far.below HB7.out.size (fun q hq => (hyb q (by simp [Mx.bs, hq])).1)))
                have HI9 := Lib.hid (HI.out.to HB9.out)
                obtain ⟨T, hT⟩ : ∃ T, tryF (mayR rows) s.need s.us x.nu m i = T := ⟨_, rfl⟩
                rw [hT] at HR3 ⊢
                clear hyb hI9 ho9 HM7 HB7 HVAL HTRY hT HI
                cases T with
                | nil =>
                  have HRE := Lib.hid (show R = some i by have e := HR3.out; rw [if_pos rfl] at e; exact e.symm)
                  have HCH := Lib.hid (show chS (mayR rows) x.nu m s = ⟨i, i, need', s.us.set i (-2)⟩ by
                    unfold chS
                    rw [HLO.out, HR0.out, HRE.out, HNE.out])
                  have hp5 : ∃ y5, (prK (mayR rows) need us x.nu m k)[k]? = some y5 := by
                    unfold prK prL
                    match k, hk2 with
                    | 0, _ => exact ⟨_, rfl⟩
                    | 1, _ => exact ⟨_, rfl⟩
                  obtain ⟨y5, hy5⟩ := hp5
                  have c5 := (HI9.out.c5.cell k).trans hy5
                  have f5 := HI9.out.c5.frozen k
                  have l5 := HI9.out.c5.lt
                  obtain ⟨w10, hw10⟩ : ∃ W, w9.setCell ⟨b5, k, none⟩ (.int .i64 (i : Int)) = W := ⟨_, rfl⟩
                  have hF10 : Far [b5] w9 w10 := by rw [← hw10]; exact Far.cell w9 b5 k _
                  have HI10 := Lib.hid (show ChI B x rows b4 b5 w s (prK (mayR rows) need us x.nu m (k + 1)) w10 from
                    ⟨HI9.out.mat.far hF10 (fun b hb e => by simp at e; have h1 := HXB.out b hb; have h2 := HB45.out; omega), HI9.out.far.trans hF10 (fun q hq => Or.inr (by simp at hq; have := HB45.out; omega)), HI9.out.c4.far hF10 (by simp; have := HB45.out; omega), by
                      have h1 := HI9.out.c5.set k (.int .i64 (i : Int))
                      rw [hw10] at h1
                      have h2 : (prK (mayR rows) need us x.nu m k).set k (.int .i64 (i : Int)) = prK (mayR rows) need us x.nu m (k + 1) := by
                        have h3 : (stK (mayR rows) need us x.nu m (k + 1)).p = (i : Int) := by rw [HNX.out, HCH.out]
                        unfold prK prL
                        match k, hk2, h3 with
                        | 0, _, h3 => simp [h3]
                        | 1, _, h3 => simp [h3]
                      rwa [h2] at h1⟩)
                  have S10 := Lib.hid hw10
                  have e := HRE.out
                  clear hw10 hF10 hy5
                  go_upto_region 19 with (fail)
                  rw [S10.out]
                  go_wp2_with (fail)
                  refine (take_p B x rows s.need s.us m i w10 hnu hnm hm hul (by have := HSO.out.n1; omega) (by
                    have h3 : s.need[m]?.getD 0 ≤ 2 := by
                      rw [List.getElem?_eq_getElem (by rw [HSO.out.nl]; exact hm)]
                      exact HSO.out.n2 _ (List.getElem_mem _)
                    omega) HI10.out.mat).mono ?_
                  rintro e w11 ⟨rfl, hm11, hf11⟩
                  have HI11 := Lib.hid (show ChI B x rows b4 b5 w (stK (mayR rows) need us x.nu m (k + 1)) (prK (mayR rows) need us x.nu m (k + 1)) w11 from
                    ⟨by rw [HNX.out, HCH.out, ← HNE.out]; exact hm11, HI10.out.far.trans hf11 (fun q hq => Or.inl hq), HI10.out.c4.far hf11 (fun e => by
                      have h1 := HB45.out
                      have h2 : b4 ∈ x.bs rows := by
                        unfold Mx.bs
                        rcases List.mem_append.1 e with e | e
                        · simp [e]
                        · simp [e]
                      have := HXB.out b4 h2
                      omega), HI10.out.c5.far hf11 (fun e => by
                      have h1 := HB45.out
                      have h2 : b5 ∈ x.bs rows := by
                        unfold Mx.bs
                        rcases List.mem_append.1 e with e | e
                        · simp [e]
                        · simp [e]
                      have := HXB.out b5 h2
                      omega)⟩)
                  have HLS := Lib.hid (show (stK (mayR rows) need us x.nu m (k + 1)).least = (i : Int) by rw [HNX.out, HCH.out])
                  clear hm11 hf11
                  go_wp2_with (fail)
                  first
                  | (go_roundw
                     case rel => exact ⟨k + 1, by omega, by rw [HLS.out], by simp, HI11.out⟩
                     case measure => simp [intOf]; omega)
                  | exact ⟨⟨k + 1, by omega, by rw [HLS.out], by simp, HI11.out⟩, by simp [intOf]; omega⟩
                  | exact ⟨⟨_, _, _, _, _, _, _, _, _, _, _, _, _, _, _, _, _, _, _, _, _, _, _, _, _, _, _, _, _, _⟩, by simp [intOf]; omega⟩
                | cons q T =>
                  have HN := Lib.hid (show chF (mayR rows) s.need s.us x.nu m (x.nu - (i + 1)) (i + 1) = R by have e := HR3.out; rwa [if_neg (by simp)] at e)
                  go_wp2_with (fail)
                  first
                  | (go_roundw
                     case rel => exact ⟨i + 1, by omega, rfl, by simp, HN.out, HI9.out⟩
                     case measure => simp [intOf]; omega)
                  | exact ⟨⟨i + 1, by omega, rfl, by simp, HN.out, HI9.out⟩, by simp [intOf]; omega⟩
        · have HE := Lib.hid (show R = none by have e := HR.out; rw [show x.nu - u = 0 by omega] at e; exact e.symm)
          obtain ⟨-, -, c2, cl⟩ := HI.out.mat.cells
          have HCH := Lib.hid (show chS (mayR rows) x.nu m s = ⟨0, s.least, s.need, s.us⟩ by
            unfold chS
            rw [HLO.out, HR0.out, HE.out])
          have HLS := Lib.hid (show (stK (mayR rows) need us x.nu m (k + 1)).least = s.least by rw [HNX.out, HCH.out])
          have HI11 := Lib.hid (show ChI B x rows b4 b5 w (stK (mayR rows) need us x.nu m (k + 1)) (prK (mayR rows) need us x.nu m (k + 1)) wr from
            ⟨by rw [HNX.out, HCH.out]; exact HI.out.mat, HI.out.far, HI.out.c4, by
              have h2 : prK (mayR rows) need us x.nu m k = prK (mayR rows) need us x.nu m (k + 1) := by
                have h3 : (stK (mayR rows) need us x.nu m (k + 1)).p = 0 := by rw [HNX.out, HCH.out]
                unfold prK prL
                match k, hk2, h3 with
                | 0, _, h3 => simp [h3]
                | 1, _, h3 => simp [h3]
              rw [← h2]; exact HI.out.c5⟩)
          go_wp2_with (fail)
          first
          | (go_roundw
             case rel => exact ⟨k + 1, by omega, by rw [HLS.out], by simp, HI11.out⟩
             case measure => simp [intOf]; omega)
          | exact ⟨⟨k + 1, by omega, by rw [HLS.out], by simp, HI11.out⟩, by simp [intOf]; omega⟩
          | exact ⟨⟨_, _, _, _, _, _, _, _, _, _, _, _, _, _, _, _, _, _, _, _, _, _, _, _, _, _, _, _, _, _⟩, by simp [intOf]; omega⟩
    · have hke : k = 2 := by omega
      subst hke
      have HK5 := Lib.hid HI.out.c5
      have HK4 := Lib.hid HI.out.c4
      have HMF := Lib.hid (show MatS B x rows (stK (mayR rows) need us x.nu m 2).need (stK (mayR rows) need us x.nu m 2).us (wr.setRow b4 (prK (mayR rows) need us x.nu m 2).toArray) ∧ Far (adB x.U ++ adB x.N) w (wr.setRow b4 (prK (mayR rows) need us x.nu m 2).toArray) from by
        have hF : Far [b4] wr (wr.setRow b4 (prK (mayR rows) need us x.nu m 2).toArray) := ⟨rfl, rfl, rfl, by simp [World.setRow], fun b hb hn => heap_row_other wr b4 b _ (by simpa using hn)⟩
        exact ⟨HI.out.mat.far hF (fun b hb e => by simp at e; have h1 := HXB.out b hb; omega), HI.out.far.trans hF (fun q hq => Or.inr (by simp at hq; have := HB45.out; omega))⟩)
      have HPE := Lib.hid (show prK (mayR rows) need us x.nu m 2 = prL (stK (mayR rows) need us x.nu m 1).p (stK (mayR rows) need us x.nu m 2).p by unfold prK; simp)
      go_upto_region 21 with (fail)
      refine wp_region_lit ?_
      refine wpList_loadC rfl _ 65 rfl b5 65 (prK (mayR rows) need us x.nu m 2) _ Try.underlying65 rfl (by rw [show (prK (mayR rows) need us x.nu m 2).length = 2 from rfl]; kernel_rfl) (by rfl) HK5.out ?_
      refine wpList_storeC rfl _ _ 65 rfl b4 65 (prL 0 0) (prK (mayR rows) need us x.nu m 2).toArray (by rw [show (prK (mayR rows) need us x.nu m 2).toArray.size = 2 from rfl]; kernel_rfl) (by rfl) (by rfl) HK4.out (by rfl) (by simp [prK, prL, Value.oneCell']) ?_
      go_wp2_with (fail)
      refine ret_cell (g := b4) (xs := prK (mayR rows) need us x.nu m 2) rfl rfl (blk_row HK4.out _) Try.underlying65 rfl (by rw [show (prK (mayR rows) need us x.nu m 2).length = 2 from rfl]; kernel_rfl) rfl ?_
      exact ⟨by rw [HPE.out]; rfl, HMF.out⟩
end Go.Proofs.Ytckbhdokfkabfaa
