/-
  Chapter 55: placing one more umpire: the recursion.
-/
import Derived.Test.YtckbhdokfkabfaaMat55
set_option linter.unusedSimpArgs false
set_option linter.unusedVariables false
namespace Go.Proofs.Ytckbhdokfkabfaa
open Go.RowKit
set_option maxRecDepth 100000
set_option maxHeartbeats 8000000
theorem uG_at {us : List Int} {u : Nat} (h : u < us.length) : us[u]? = some (uG us u) := by unfold uG; rw [List.getElem?_eq_getElem h]; rfl
theorem sG_at {se : List Bool} {u : Nat} (h : u < se.length) : se[u]? = some (sG se u) := by unfold sG; rw [List.getElem?_eq_getElem h]; rfl
theorem rG_may {rows : List Rw} {m : Nat} {r : Rw} (h : rows[m]? = some r) : rG (mayR rows) m = r.r := by unfold rG mayR; rw [List.getElem?_map, h]; rfl
theorem bG_at {r : List Bool} {u : Nat} {b : Bool} (h : r[u]? = some b) : bG r u = b := by unfold bG; rw [h]; rfl
structure PlR (B : Nat) (x : Mx) (rows : List Rw) (need : List Nat) (S : Option Addr) (sc : Nat) (w0 : World) (us : List Int) (se : List Bool) (w : World) : Prop where
  mat : MatS B x rows need us w
  seen : OwnL boE 1 4 B w (.slice S x.nu sc) se
  far : Far (adB x.U ++ adB S) w0 w
  sl : se.length = x.nu
  val : Val (mayR rows) x.nm us
theorem PlR.setS {B : Nat} {x : Mx} {rows : List Rw} {need : List Nat} {sc g u : Nat} {w0 w : World} {us : List Int} {se : List Bool} (h : PlR B x rows need (some ⟨g, 0, none⟩) sc w0 us se w) (hS : ∀ b ∈ adB (some (⟨g, 0, none⟩ : Addr)), b ∉ x.bs rows) (v : Bool) :
    PlR B x rows need (some ⟨g, 0, none⟩) sc w0 us (se.set u v) (w.setCell ⟨g, u, none⟩ (.bool v)) := by
  have hF := Far.cell w g u (.bool v)
  refine ⟨h.mat.far hF (fun b hb e => hS g (by simp [adB]) (by simp at e; subst e; exact hb)), own1_set boE_len h.seen rfl, h.far.trans hF (fun y hy => Or.inl (by simp at hy; subst hy; simp [adB])), by simpa using h.sl, h.val⟩
theorem PlR.setU {B : Nat} {x : Mx} {rows : List Rw} {need : List Nat} {S : Option Addr} {sc g u m : Nat} {w0 w : World} {us : List Int} {se : List Bool} (h : PlR B x rows need S sc w0 us se w) (hS : ∀ b ∈ adB S, b ∉ x.bs rows) (hU : x.U = some ⟨g, 0, none⟩) (hval : Val (mayR rows) x.nm (us.set u (m : Int))) :
    PlR B x rows need S sc w0 (us.set u (m : Int)) se (w.setCell ⟨g, u, none⟩ (.int .i64 (m : Int))) := by
  have hF := Far.cell w g u (.int .i64 (m : Int))
  have hFU : Far (adB x.U) w (w.setCell ⟨g, u, none⟩ (.int .i64 (m : Int))) := by rw [hU]; exact hF
  have ho : OwnL iE 1 3 B (w.setCell ⟨g, u, none⟩ (.int .i64 (m : Int))) (.slice x.U x.nu x.uc) (us.set u (m : Int)) := by
    have h1 := h.mat.hused
    rw [hU] at h1 ⊢
    exact own1_set iE_len h1 rfl
  refine ⟨h.mat.setU hFU ho (by simpa using h.mat.lu), own_far h.seen hFU (fun b hb e => hS b hb (by simp [Mx.bs, e])), h.far.trans hF (fun y hy => Or.inl (by simp at hy; subst hy; rw [hU]; simp [adB])), h.sl, hval⟩
theorem PlR.here {B : Nat} {x : Mx} {rows : List Rw} {need : List Nat} {S : Option Addr} {sc : Nat} {w0 w : World} {us : List Int} {se : List Bool} (h : PlR B x rows need S sc w0 us se w) : PlR B x rows need S sc w us se w := ⟨h.mat, h.seen, Far.refl _ _, h.sl, h.val⟩
theorem PlR.from {B : Nat} {x : Mx} {rows : List Rw} {need : List Nat} {S : Option Addr} {sc : Nat} {w0 w1 w : World} {us : List Int} {se : List Bool} (h : PlR B x rows need S sc w1 us se w) (hf : Far (adB x.U ++ adB S) w0 w1) : PlR B x rows need S sc w0 us se w := ⟨h.mat, h.seen, hf.trans h.far (fun _ hy => Or.inl hy), h.sl, h.val⟩
theorem val_set {may : List (List Bool)} {nm u m : Nat} {us : List Int} (h : Val may nm us) (hu : u < us.length) (hm : m < nm) (hb : bG (rG may m) u = true) : Val may nm (us.set u (m : Int)) := fun j => by
  rw [uG_set hu]
  split
  · rename_i e; subst e; exact Or.inr (Or.inr ⟨m, hm, rfl, hb⟩)
  · exact h j
theorem place_p (B : Nat) (x : Mx) (rows : List Rw) (need : List Nat) (S : Option Addr) (sc : Nat) (hS : ∀ b ∈ adB S, b ∉ x.bs rows) (hnu : x.nu ≤ 1000) (hnm : x.nm ≤ 1000) : ∀ (f m : Nat) (us : List Int) (se : List Bool) (w : World), m < x.nm → se.count false < f → PlR B x rows need S sc w us se w →
    Calls Try.prog 57 #[.pointer (some ⟨x.bX, 0, none⟩), .int .i64 (m : Int), .slice S x.nu sc] w fun e w' => e = .returned (.bool (placeF (mayR rows) f m us se).1) ∧ PlR B x rows need S sc w (placeF (mayR rows) f m us se).2.1 (placeF (mayR rows) f m us se).2.2 w' := by
  intro f
  induction f with
  | zero => intro m us se w _ h; omega
  | succ f ih =>
    intro m us se w hm hc h
    have IH := Lib.hid ih
    clear ih
    have HS := Lib.hid hS
    clear hS
    obtain ⟨r, hr⟩ : ∃ r, rows[m]? = some r := ⟨_, List.getElem?_eq_getElem (by rw [h.mat.lr]; exact hm)⟩
    obtain ⟨gR, hgR, cR, -, hgRl, -, -⟩ := own1_at (rwE_len x.nu) h.mat.outer hr rfl
    obtain ⟨hrow, hrl⟩ := h.mat.row r (List.mem_of_getElem? hr)
    obtain ⟨⟨R, hRR⟩, hR1⟩ : (∃ R, placeF (mayR rows) (f + 1) m us se = R) ∧ placeF (mayR rows) (f + 1) m us se = rowF (placeF (mayR rows) f) m r.r 0 us se := ⟨⟨_, rfl⟩, by rw [← rG_may hr]; rfl⟩
    rw [hRR]
    have HR := Lib.hid (show rowF (placeF (mayR rows) f) m (r.r.drop 0) 0 us se = R by rw [List.drop_zero, ← hR1, hRR])
    have HMAY := Lib.hid (show ∀ u b, r.r[u]? = some b → bG (rG (mayR rows) m) u = b from fun u b hb => by rw [rG_may hr]; exact bG_at hb)
    have HRow := Lib.hid (show r ∈ rows from List.mem_of_getElem? hr)
    have H := Lib.hid h
    obtain ⟨c0, c1, c2, cl⟩ := h.mat.cells
    have hrl2 := Lib.hid hrl
    clear hR1 hRR hrow hr h
    rw [hgR] at c0
    clear c1 c2
    go_enter Try.func57, Try.ntmps57
    go_wp2_with (fail)
    go_loopw [17] (fun iv wr => ∃ (u : Nat) (us1 : List Int) (se1 : List Bool), u ≤ x.nu ∧ iv = .int .i64 u ∧ rowF (placeF (mayR rows) f) m (r.r.drop u) u us1 se1 = R ∧ PlR B x rows need S sc w us1 se1 wr ∧ se1.count false ≤ se.count false) (fun i _ => x.nu - (intOf i).toNat)
    case atStart => exact ⟨0, us, se, by omega, rfl, HR.out, H.out, Nat.le_refl _⟩
    case round =>
      obtain ⟨u, us1, se1, hu, rfl, hR, hI, hcs⟩ := hrel
      have HI := Lib.hid hI
      have HR1 := Lib.hid hR
      have HCS := Lib.hid hcs
      clear hR hI hcs
      by_cases hul : u < x.nu
      · obtain ⟨b, hb⟩ : ∃ b, r.r[u]? = some b := ⟨_, List.getElem?_eq_getElem (by rw [hrl2.out]; exact hul)⟩
        obtain ⟨gr, hgr, cr, -, hgrl, -, -⟩ := own1_at boE_len (HI.out.mat.row r HRow.out).1 hb rfl
        obtain ⟨gU, hgU, cU, fU, hgUl, -, -⟩ := own1_at iE_len HI.out.mat.hused (uG_at (by rw [HI.out.mat.lu]; exact hul)) rfl
        obtain ⟨gS, hgS, cS, fS, hgSl, -, -⟩ := own1_at boE_len HI.out.seen (sG_at (by rw [HI.out.sl]; exact hul)) rfl
        obtain ⟨c0, c1, c2, cl⟩ := HI.out.mat.cells
        have HB := Lib.hid (HMAY.out u b hb)
        have HR2 := Lib.hid (show rowF (placeF (mayR rows) f) m (b :: r.r.drop (u + 1)) u us1 se1 = R by
          have e := HR1.out
          rwa [List.drop_eq_getElem_cons (by rw [hrl2.out]; exact hul), show r.r[u]'(by rw [hrl2.out]; exact hul) = b from Option.some.inj ((List.getElem?_eq_getElem _).symm.trans hb)] at e)
        have hu1000 : u < 1000 := by omega
        obtain ⟨s, hs⟩ : ∃ s, sG se1 u = s := ⟨_, rfl⟩
        obtain ⟨z, hz⟩ : ∃ z, uG us1 u = z := ⟨_, rfl⟩
        rw [hs] at cS
        rw [hz] at cU
        rw [hgU] at c2
        have HGU := Lib.hid hgU
        have HGS := Lib.hid hgS
        have HGr := Lib.hid hgr
        subst hgS
        rw [hgr]
        clear hb HR1 c1 hgU hgr c0
        have HSs := Lib.hid hs
        have HZz := Lib.hid hz
        clear hs hz
        by_cases hskip : b = false ∨ s = true ∨ z = -2
        · have HN := Lib.hid (show rowF (placeF (mayR rows) f) m (r.r.drop (u + 1)) (u + 1) us1 se1 = R by
            have e := HR2.out
            unfold rowF at e
            rwa [if_pos (by rw [HSs.out, HZz.out]; exact hskip)] at e)
          cases b
          · go_wp2_with (fail)
            go_roundw
            case rel => exact ⟨u + 1, us1, se1, by omega, by simp, HN.out, HI.out, HCS.out⟩
            case measure => simp [intOf]; omega
          · cases s
            · have hz2 : z = -2 := by simpa using hskip
              subst hz2
              clear hskip
              go_wp2_with (fail)
              go_roundw
              case rel => exact ⟨u + 1, us1, se1, by omega, by simp, HN.out, HI.out, HCS.out⟩
              case measure => simp [intOf]; omega
            · clear hskip
              go_wp2_with (fail)
              go_roundw
              case rel => exact ⟨u + 1, us1, se1, by omega, by simp, HN.out, HI.out, HCS.out⟩
              case measure => simp [intOf]; omega
        · obtain rfl : b = true := by cases b <;> simp_all
          obtain rfl : s = false := by cases s <;> simp_all
          have hz2 : (z == -2) = false := by simp; intro e; exact hskip (Or.inr (Or.inr e))
          have HSK := Lib.hid hskip
          have HR3 := Lib.hid (show (if uG us1 u = -1 then (true, us1.set u (m : Int), se1.set u true) else if (placeF (mayR rows) f (uG us1 u).toNat us1 (se1.set u true)).1 = true then (true, (placeF (mayR rows) f (uG us1 u).toNat us1 (se1.set u true)).2.1.set u (m : Int), (placeF (mayR rows) f (uG us1 u).toNat us1 (se1.set u true)).2.2) else rowF (placeF (mayR rows) f) m (r.r.drop (u + 1)) (u + 1) (placeF (mayR rows) f (uG us1 u).toNat us1 (se1.set u true)).2.1 (placeF (mayR rows) f (uG us1 u).toNat us1 (se1.set u true)).2.2) = R by
            have e := HR2.out
            unfold rowF at e
            rwa [if_neg (by rw [HSs.out, HZz.out]; exact HSK.out)] at e)
          clear hskip HR2
          obtain ⟨w5, hw5⟩ : ∃ W, wr.setCell ⟨gS, u, none⟩ (.bool true) = W := ⟨_, rfl⟩
          have HI5 := Lib.hid (show PlR B x rows need (some ⟨gS, 0, none⟩) sc w us1 (se1.set u true) w5 by rw [← hw5]; exact HI.out.setS HS.out true)
          have HCO := Lib.hid (count_one (se := se1) (u := u) HSs.out)
          have S5 := Lib.hid hw5
          clear hw5
          have hmlt : m < 1000 := by omega
          obtain ⟨d0, d1, d2, dl⟩ := HI5.out.mat.cells
          obtain ⟨gU', hgU', cU5, fU5, hgUl5, -, -⟩ := own1_at iE_len HI5.out.mat.hused (uG_at (by rw [HI5.out.mat.lu]; exact hul)) rfl
          rw [HGU.out] at d2 hgU'
          injection hgU' with hgU'
          injection hgU' with hgU' _ _
          subst hgU'
          rw [HZz.out] at cU5
          clear d0 d1
          have hz3 := HI5.out.val u
          rw [HZz.out] at hz3
          by_cases hz1 : z = -1
          · subst hz1
            have HRE := Lib.hid (show (true, us1.set u (m : Int), se1.set u true) = R by
              have e := HR3.out
              rwa [if_pos HZz.out] at e)
            have HFI := Lib.hid (HI5.out.setU HS.out HGU.out (val_set HI5.out.val (by rw [HI5.out.mat.lu]; exact hul) hm HB.out))
            clear hz3
            go_upto_region 6 with (fail)
            rw [S5.out]
            have e := HRE.out
            subst e
            go_wp2_with (fail)
            go_ret
            exact ⟨rfl, HFI.out⟩
          · have hz4 : (z == -1) = false := by simpa using hz1
            obtain ⟨v, hv, rfl, hvm⟩ : ∃ v : Nat, v < x.nm ∧ z = (v : Int) ∧ bG (rG (mayR rows) v) u = true := by
              rcases hz3 with e | e | e
              · simp [e] at hz2
              · exact (hz1 e).elim
              · exact e
            have hvlt : v < 1000 := by omega
            obtain ⟨Q, hQ⟩ : ∃ Q, placeF (mayR rows) f v us1 (se1.set u true) = Q := ⟨_, rfl⟩
            have HR4 := Lib.hid (show (if Q.1 = true then (true, Q.2.1.set u (m : Int), Q.2.2) else rowF (placeF (mayR rows) f) m (r.r.drop (u + 1)) (u + 1) Q.2.1 Q.2.2) = R by
              have e := HR3.out
              rw [if_neg (by rw [HZz.out]; exact hz1), HZz.out, show ((v : Int)).toNat = v by omega, hQ] at e
              exact e)
            have HOK := Lib.hid (show PlOk (mayR rows) x.nm v us1 (se1.set u true) Q.1 Q.2.1 Q.2.2 by rw [← hQ]; exact place_ok f v us1 (se1.set u true) hv HI5.out.val)
            have hcall := IH.out v us1 (se1.set u true) w5 hv (by have := HCO.out; have := HCS.out; omega) HI5.out.here
            rw [hQ] at hcall
            have HC := Lib.hid hcall
            obtain ⟨q1, q2, q3⟩ := Q
            dsimp only at HR4 HOK HC
            clear hz3 hcall hQ hvm
            go_upto_region 6 with (fail)
            rw [S5.out]
            go_wp2_with (fail)
            refine HC.out.mono ?_
            rintro e w6 ⟨rfl, hI6⟩
            have HI6 := Lib.hid (hI6.from HI5.out.far)
            clear hI6
            cases q1
            · have HN := Lib.hid (show rowF (placeF (mayR rows) f) m (r.r.drop (u + 1)) (u + 1) q2 q3 = R from HR4.out)
              have HCT := Lib.hid (show q3.count false ≤ se.count false by
                have h1 := count_le HOK.out.slen HOK.out.mono
                have h2 := HCO.out
                have h3 := HCS.out
                omega)
              go_wp2_with (fail)
              go_roundw
              case rel => exact ⟨u + 1, q2, q3, by omega, by simp, HN.out, HI6.out, HCT.out⟩
              case measure => simp [intOf]; omega
            · have HRE := Lib.hid (show (true, q2.set u (m : Int), q3) = R from HR4.out)
              obtain ⟨e0, e1, e2, el⟩ := HI6.out.mat.cells
              obtain ⟨gU', hgU', cU6, fU6, hgUl6, -, -⟩ := own1_at iE_len HI6.out.mat.hused (uG_at (by rw [HI6.out.mat.lu]; exact hul)) rfl
              rw [HGU.out] at e2 hgU'
              injection hgU' with hgU'
              injection hgU' with hgU' _ _
              subst hgU'
              have HFI := Lib.hid (HI6.out.setU HS.out HGU.out (val_set HI6.out.val (by rw [HI6.out.mat.lu]; exact hul) hm HB.out))
              clear e0 e1
              have e := HRE.out
              subst e
              go_wp2_with (fail)
              go_ret
              exact ⟨rfl, HFI.out⟩
      · have HE := Lib.hid (show R = (false, us1, se1) by
          have e := HR1.out
          rw [List.drop_of_length_le (by rw [hrl2.out]; omega)] at e
          exact e.symm)
        have e := HE.out
        subst e
        go_wp2_with (fail)
        go_ret
        exact ⟨rfl, HI.out⟩
end Go.Proofs.Ytckbhdokfkabfaa
