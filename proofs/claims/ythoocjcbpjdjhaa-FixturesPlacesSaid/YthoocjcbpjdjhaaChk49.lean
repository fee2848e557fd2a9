/-
  Chapter 49: CheckPlaced of the program.
-/
import Derived.Test.YthoocjcbpjdjhaaPlaceR49
import Derived.Test.YthoocjcbpjdjhaaSpecC49
namespace Go.Proofs.Ythoocjcbpjdjhaa
open Go.RowKit

def ChPost (w : World) (l : List Pf) (x y : Int) (gr : List Int) (e : Ending) (w' : World) : Prop :=
  e = .returned (.tuple #[.int .i64 (chkAll l x y gr).1, .int .i64 (chkAll l x y gr).2]) ∧ Below w.heap.size w w'
def ChI (w : World) (l : List Pf) (x y : Int) (G : Option Addr) (gc : Nat) (gr : List Int) (i : Value) (wr : World) : Prop :=
  ∃ k : Nat, k ≤ l.length ∧ i = .int .i64 k ∧ chkFrom x y gr (l.take k) (l.drop k) = chkFrom x y gr [] l ∧ Keep w wr [(w.heap.size, 0, .int .i64 x), (w.heap.size, 1, .int .i64 y), (w.heap.size, 2, .slice G gr.length gc)]
def ClI (W : World) (k : Nat) (l : List Pf) (y : Int) (p : Pf) (i : Value) (wr : World) : Prop :=
  ∃ j : Nat, j ≤ k ∧ i = .int .i64 j ∧ (l.take j).any (closeL y p) = false ∧ Below W.heap.size W wr
theorem ClI.next {W wr w1 : World} {k j : Nat} {l : List Pf} {y : Int} {p : Pf} (h : Below W.heap.size W wr) (hb : Below wr.heap.size wr w1) (hj : j < k) (e : (l.take (j + 1)).any (closeL y p) = false) : ClI W k l y p (.int .i64 (j + 1)) w1 :=
  ⟨j + 1, hj, by simp, e, cur_step1 h hb⟩
theorem taken_f' (A : Option Addr) (c n : Nat) (l : List Pf) (g d : Int) (w : World) (hn : l.length = n) (hl : n ≤ 1000) (hr : Rd pfE 5 w w.heap.size A l) :
    Calls Try.prog 26 #[.slice A n c, .int .i64 g, .int .i64 d] w fun e w' => e = .returned (.bool (takenL l g d)) ∧ Below w.heap.size w w' := by
  subst hn; exact taken_f A c l g d w hl hr
theorem known_fno (r h a x y : Int) (A : Option Addr) (n c : Nat) (w : World) (hk : knownL ⟨r, h, a⟩ n = false) :
    Calls Try.prog 24 #[.agg #[.int .i64 r, .int .i64 h, .int .i64 a], .agg #[.int .i64 x, .int .i64 y, .slice A n c]] w fun e w' => e = .returned (.bool false) ∧ Below w.heap.size w w' := by
  have := known_f' r h a x y A n c w
  rwa [hk] at this
theorem known_fyes (r h a x y : Int) (A : Option Addr) (n c : Nat) (w : World) (hk : knownL ⟨r, h, a⟩ n = true) :
    Calls Try.prog 24 #[.agg #[.int .i64 r, .int .i64 h, .int .i64 a], .agg #[.int .i64 x, .int .i64 y, .slice A n c]] w fun e w' => e = .returned (.bool true) ∧ Below w.heap.size w w' := by
  have := known_f' r h a x y A n c w
  rwa [hk] at this
theorem chk_now {x y : Int} {gr : List Int} {l : List Pf} {k : Nat} {p : Pf} (h : l[k]? = some p) : chkFrom x y gr (l.take k) (l.drop k) = if chkOne x y gr (l.take k) p = 0 then chkFrom x y gr (l.take (k + 1)) (l.drop (k + 1)) else ((k : Int), chkOne x y gr (l.take k) p) := by
  have hk := (List.getElem?_eq_some_iff.1 h).1
  rw [drop_next h, take_next h]
  show (if _ then _ else _) = _
  rw [List.length_take, Nat.min_eq_left (Nat.le_of_lt hk)]
theorem chk_stop {x y : Int} {gr : List Int} {l : List Pf} {k : Nat} {p : Pf} {e : Int} (hs : seasonL l.length x y gr = 0) (hsim : chkFrom x y gr (l.take k) (l.drop k) = chkFrom x y gr [] l) (h : l[k]? = some p) (he : chkOne x y gr (l.take k) p = e) (hne : e ≠ 0) : chkAll l x y gr = ((k : Int), e) := by
  unfold chkAll
  rw [if_pos hs, ← hsim, chk_now h, he, if_neg hne]
theorem chk_go {x y : Int} {gr : List Int} {l : List Pf} {k : Nat} {p : Pf} (hsim : chkFrom x y gr (l.take k) (l.drop k) = chkFrom x y gr [] l) (h : l[k]? = some p) (he : chkOne x y gr (l.take k) p = 0) : chkFrom x y gr (l.take (k + 1)) (l.drop (k + 1)) = chkFrom x y gr [] l := by
  rw [← hsim, chk_now h, if_pos he]

set_option maxRecDepth 100000 in
set_option maxHeartbeats 4000000 in
theorem chk_f (A G : Option Addr) (c gc : Nat) (l : List Pf) (x y : Int) (gr : List Int) (w : World) (hl : l.length ≤ 9223372036854775807) (hlc : l.length ≤ c) (hgl : gr.length ≤ 9223372036854775807)
    (hr : Rd pfE 5 w w.heap.size A l) (hg : Rd inE 1 w w.heap.size G gr) (hd : ∀ p ∈ l, -1000 ≤ p.d ∧ p.d ≤ 1000000) :
    Calls Try.prog 14 #[.slice A l.length c, .agg #[.int .i64 x, .int .i64 y, .slice G gr.length gc]] w (ChPost w l x y gr) := by
  by_cases hs : seasonL l.length x y gr = 0
  · have hbd := season_ok hs
    have e0 : (seasonL l.length x y gr != 0) = false := by simp [hs]
    have HS := Lib.hid hs
    clear hs
    go_enter Try.func14, Try.ntmps14
    go_wp2_with (go_at_call 23; refine (season_f _ _ _ _ _ _ _ (hg.to (cur_new _ _)) hgl).mono ?_; rintro e w1 ⟨rfl, hb1⟩)
    have K1 : Keep w w1 [(w.heap.size, 0, .int .i64 x), (w.heap.size, 1, .int .i64 y), (w.heap.size, 2, .slice G gr.length gc)] := Keep.to (Keep.start (cur_new w _) (by simp)) hb1
    go_loopw [20] (ChI w l x y G gc gr) (fun i _ => l.length - (intOf i).toNat)
    case atStart => exact ⟨0, Nat.zero_le _, rfl, rfl, K1⟩
    case round =>
      clear hb1 K1
      obtain ⟨k, hk, rfl, hsim, hK⟩ := hrel
      have HSIM := Lib.hid hsim
      have HK := Lib.hid hK
      have s0 := hK.get (b := w.heap.size) (o := 0) (v := .int .i64 x) (by simp)
      have s1 := hK.get (b := w.heap.size) (o := 1) (v := .int .i64 y) (by simp)
      have s2 := hK.get (b := w.heap.size) (o := 2) (v := .slice G gr.length gc) (by simp)
      have zs := hK.lt (b := w.heap.size) (o := 0) (v := .int .i64 x) (by simp)
      have hbw := hK.1
      by_cases hlt : k < l.length
      · obtain ⟨p, hp⟩ : ∃ p, l[k]? = some p := ⟨_, List.getElem?_eq_getElem hlt⟩
        obtain ⟨b, off, rfl, hbb, c0, c1, c2, c3, c4⟩ := rdPf hr hbw hp
        have hpd := hd p (List.mem_of_getElem? hp)
        obtain ⟨⟨pr, ph, pa⟩, pd, pg⟩ := p
        have HP := Lib.hid hp
        have hHB := Lib.hid hbw
        simp only [] at hpd
        clear hp hsim hK hbw
        obtain ⟨wo, rfl⟩ : ∃ wo : World, wo = wr := ⟨_, rfl⟩
        by_cases hkn : knownL ⟨pr, ph, pa⟩ gr.length = true
        · have hkk := known_ok hkn
          simp only [] at hkk
          obtain ⟨hn, rfl⟩ : ∃ hn : Nat, ph = hn := ⟨ph.toNat, by omega⟩
          obtain ⟨gv, hgv⟩ : ∃ gv, gr[hn]? = some gv := ⟨_, List.getElem?_eq_getElem (by omega)⟩
          have hga : grAt gr hn = gv := by unfold grAt; simp [List.getD, hgv]
          have HGA := Lib.hid hga
          have HKN := Lib.hid hkn
          obtain ⟨gb, goff, rfl, hgb, gw⟩ := rdIn hg (Below.refl _ _) hgv
          have l3 : gb < wo.heap.size := by omega
          have m1 : wo.heap.size ≠ w.heap.size := by omega
          have m2 : wo.heap.size ≠ gb := by omega
          clear hgv hga
          obtain ⟨CS, hCS⟩ : ∃ CS : List (Nat × Nat × Value), CS = ([(wo.heap.size, 0, .int .i64 pr), (wo.heap.size, 1, .int .i64 hn), (wo.heap.size, 2, .int .i64 pa), (wo.heap.size, 3, .int .i64 pd), (wo.heap.size, 4, .int .i64 pg)] ++ [(w.heap.size, 0, .int .i64 x), (w.heap.size, 1, .int .i64 y), (w.heap.size, 2, .slice (some ⟨gb, goff, none⟩) gr.length gc)]) := ⟨_, rfl⟩
          have K3 : Keep w (wo.alloc (.cells #[.int .i64 pr, .int .i64 hn, .int .i64 pa, .int .i64 pd, .int .i64 pg] 39)) CS := by rw [hCS]; exact Keep.more (HK.out.to (cur_new wo _)) (by simp)
          have k0 : ∀ s : Wd w CS, s.w.cell? ⟨wo.heap.size, 0, none⟩ = some (.int .i64 pr) := fun s => s.h.get (by simp [hCS])
          have k1 : ∀ s : Wd w CS, s.w.cell? ⟨wo.heap.size, 1, none⟩ = some (.int .i64 hn) := fun s => s.h.get (by simp [hCS])
          have k2 : ∀ s : Wd w CS, s.w.cell? ⟨wo.heap.size, 2, none⟩ = some (.int .i64 pa) := fun s => s.h.get (by simp [hCS])
          have k4 : ∀ s : Wd w CS, s.w.cell? ⟨wo.heap.size, 4, none⟩ = some (.int .i64 pg) := fun s => s.h.get (by simp [hCS])
          have j0 : ∀ s : Wd w CS, s.w.cell? ⟨w.heap.size, 0, none⟩ = some (.int .i64 x) := fun s => s.h.get (by simp [hCS])
          have j1 : ∀ s : Wd w CS, s.w.cell? ⟨w.heap.size, 1, none⟩ = some (.int .i64 y) := fun s => s.h.get (by simp [hCS])
          have j2 : ∀ s : Wd w CS, s.w.cell? ⟨w.heap.size, 2, none⟩ = some (.slice (some ⟨gb, goff, none⟩) gr.length gc) := fun s => s.h.get (by simp [hCS])
          have j3 : ∀ s : Wd w CS, s.w.cell? ⟨gb, goff + hn, none⟩ = some (.int .i64 gv) := fun s => (s.h.1.cell (p := ⟨gb, goff + hn, none⟩) hgb).trans gw
          have hex : ∀ s : Wd w CS, ∃ s' : Wd w CS, s.w = s'.w := fun s => ⟨s, rfl⟩
          haveI hne : Nonempty (Wd w CS) := ⟨⟨_, K3⟩⟩
          have HCS := Lib.hid hCS
          clear hCS
          go_wp2_with fail
          refine wp_region_wd w CS (by kernel_rfl) (by kernel_rfl) K3.drew ?_
          repeat (go_big_quiet_step ((go_at_call 24; refine (known_fyes _ _ _ _ _ _ _ _ _ HKN.out).mono ?_; rintro e w4 ⟨rfl, hb4⟩; exact ⟨rfl, ⟨w4, (Wd.h _).to hb4⟩, rfl⟩)))
          refine wpQuiet_nil ?_
          rintro w4 ⟨s4, hs4⟩
          have K4 : Keep w w4 CS := by rw [hs4]; exact s4.h
          clear hs4 s4
          rw [HCS.out] at K4
          clear k0 k1 k2 k4 j0 j1 j2 j3 hex hne K3 HCS
          (try simp only [])
          have HK4 := Lib.hid K4
          have q1 := K4.get (b := wo.heap.size) (o := 1) (v := .int .i64 hn) (by simp)
          have q2 := K4.get (b := wo.heap.size) (o := 2) (v := .int .i64 pa) (by simp)
          have q3 := K4.get (b := wo.heap.size) (o := 3) (v := .int .i64 pd) (by simp)
          have q4 := K4.get (b := wo.heap.size) (o := 4) (v := .int .i64 pg) (by simp)
          have t0 := K4.get (b := w.heap.size) (o := 0) (v := .int .i64 x) (by simp)
          have y1 := K4.lt (b := wo.heap.size) (o := 1) (v := .int .i64 hn) (by simp)
          clear K4
          by_cases hgg : pg = gv
          · have HGG := Lib.hid hgg
            have e1 : (pg != gv) = false := by simp [hgg]
            clear hgg
            simp only [e1]
            by_cases hlo : pd < x ∨ 109572 < pd
            · have hone : chkOne x y gr (l.take k) ⟨⟨pr, hn, pa⟩, pd, pg⟩ = 2 := by
                unfold chkOne; simp only [HKN.out, HGA.out]; rw [if_neg (by simp [HGG.out]), if_pos hlo]
              have HALL := Lib.hid (chk_stop HS.out HSIM.out HP.out hone (by decide))
              have hbe := HK4.out.1
              clear hone
              by_cases hlo1 : pd < x
              · clear hlo
                go_wp2
                go_ret2
                exact ⟨by rw [HALL.out]; rfl, hbe⟩
              · have hlo2 : 109572 < pd := by omega
                clear hlo
                go_wp2
                go_ret2
                exact ⟨by rw [HALL.out]; rfl, hbe⟩
            · have h2a : ¬ pd < x := by omega
              have h2b : ¬ 109572 < pd := by omega
              have HLO := Lib.hid hlo
              clear hlo
              have hbw4 := HK4.out.1
              have hlk : (l.take k).length = k := by rw [List.length_take]; omega
              have hkc : k ≤ c := by omega
              obtain ⟨CT, hCT⟩ : ∃ CT : List (Nat × Nat × Value), CT = ([(wo.heap.size, 0, .int .i64 pr), (wo.heap.size, 1, .int .i64 hn), (wo.heap.size, 2, .int .i64 pa), (wo.heap.size, 3, .int .i64 pd), (wo.heap.size, 4, .int .i64 pg)] ++ [(w.heap.size, 0, .int .i64 x), (w.heap.size, 1, .int .i64 y), (w.heap.size, 2, .slice (some ⟨gb, goff, none⟩) gr.length gc)]) := ⟨_, rfl⟩
              have K3 : Keep w w4 CT := by rw [hCT]; exact HK4.out
              have k3 : ∀ s : Wd w CT, s.w.cell? ⟨wo.heap.size, 3, none⟩ = some (.int .i64 pd) := fun s => s.h.get (by simp [hCT])
              have k4 : ∀ s : Wd w CT, s.w.cell? ⟨wo.heap.size, 4, none⟩ = some (.int .i64 pg) := fun s => s.h.get (by simp [hCT])
              have hex : ∀ s : Wd w CT, ∃ s' : Wd w CT, s.w = s'.w := fun s => ⟨s, rfl⟩
              haveI hne : Nonempty (Wd w CT) := ⟨⟨_, K3⟩⟩
              have HCT := Lib.hid hCT
              have HLK := Lib.hid hlk
              clear hCT hlk
              go_wp2_with fail
              refine wp_region_wd w CT (by kernel_rfl) (by kernel_rfl) K3.drew ?_
              repeat (go_big_quiet_step ((go_at_call 26; refine (taken_f' _ _ _ (l.take k) _ _ _ HLK.out (by omega) ((hr.to (Wd.h _).1).pre k)).mono ?_; rintro e w5 ⟨rfl, hb5⟩; exact ⟨rfl, ⟨w5, (Wd.h _).to hb5⟩, rfl⟩)))
              refine wpQuiet_nil ?_
              rintro w5 ⟨s5, hs5⟩
              have K5 : Keep w w5 CT := by rw [hs5]; exact s5.h
              clear hs5 s5
              rw [HCT.out] at K5
              clear k3 k4 hex hne K3 HCT
              (try simp only [])
              have HK5 := Lib.hid K5
              have r1 := K5.get (b := wo.heap.size) (o := 1) (v := .int .i64 hn) (by simp)
              have r2 := K5.get (b := wo.heap.size) (o := 2) (v := .int .i64 pa) (by simp)
              have z5 := K5.lt (b := wo.heap.size) (o := 1) (v := .int .i64 hn) (by simp)
              clear K5 hbw4
              by_cases htk : takenL (l.take k) pg pd = true
              · have hone : chkOne x y gr (l.take k) ⟨⟨pr, hn, pa⟩, pd, pg⟩ = 13 := by
                  unfold chkOne; simp only [HKN.out, HGA.out]; rw [if_neg (by simp [HGG.out]), if_neg HLO.out, if_pos htk]
                have HALL := Lib.hid (chk_stop HS.out HSIM.out HP.out hone (by decide))
                have hbe := HK5.out.1
                clear hone
                simp only [htk]
                go_wp2
                go_ret2
                exact ⟨by rw [HALL.out]; rfl, hbe⟩
              · have htk : takenL (l.take k) pg pd = false := by simpa using htk
                have HTK := Lib.hid htk
                simp only [htk]
                go_wp2
                go_loopw [70] (ClI w5 k l y ⟨⟨pr, hn, pa⟩, pd, pg⟩) (fun i _ => k - (intOf i).toNat)
                case atStart => exact ⟨0, Nat.zero_le _, rfl, rfl, Below.refl _ _⟩
                case round =>
                  obtain ⟨j, hj, rfl, hany, hb6⟩ := hrel
                  have HANY := Lib.hid hany
                  have K6 := HK5.out.to hb6
                  have g1 := K6.get (b := wo.heap.size) (o := 1) (v := .int .i64 hn) (by simp)
                  have g2 := K6.get (b := wo.heap.size) (o := 2) (v := .int .i64 pa) (by simp)
                  have g3 := K6.get (b := wo.heap.size) (o := 3) (v := .int .i64 pd) (by simp)
                  have g4 := K6.get (b := w.heap.size) (o := 1) (v := .int .i64 y) (by simp)
                  have y1 := K6.lt (b := wo.heap.size) (o := 1) (v := .int .i64 hn) (by simp)
                  have y2 := K6.lt (b := w.heap.size) (o := 1) (v := .int .i64 y) (by simp)
                  have HK6 := Lib.hid K6
                  have HB6 := Lib.hid hb6
                  clear hany
                  by_cases hjk : j < k
                  · obtain ⟨q, hq⟩ : ∃ q, l[j]? = some q := ⟨_, List.getElem?_eq_getElem (by omega)⟩
                    obtain ⟨b', off', e', _, u0, u1, u2, u3, u4⟩ := rdPf hr K6.1 hq
                    injection e' with e'
                    injection e' with ee1 ee2 _
                    subst ee1 ee2
                    have hqd := hd q (List.mem_of_getElem? hq)
                    obtain ⟨⟨qr, qh, qa⟩, qd, qg⟩ := q
                    have HQ := Lib.hid hq
                    simp only [] at hqd
                    clear hq K6 hb6
                    have hjl : j < l.length := by omega
                    have hdist : (qd - pd < pd - qd ∧ pd - qd ≤ y) ∨ (¬ qd - pd < pd - qd ∧ qd - pd ≤ y) ∨ (qd - pd < pd - qd ∧ ¬ pd - qd ≤ y) ∨ (¬ qd - pd < pd - qd ∧ ¬ qd - pd ≤ y) := by omega
                    by_cases e5 : playsL ⟨qr, qh, qa⟩ hn = true
                    · have HE := Lib.hid e5
                      rcases hdist with ⟨d1, d2⟩ | ⟨d1, d2⟩ | ⟨d1, d2⟩ | ⟨d1, d2⟩
                      · have hcl : closeL y ⟨⟨pr, hn, pa⟩, pd, pg⟩ ⟨⟨qr, qh, qa⟩, qd, qg⟩ = true := by unfold closeL; simp only [HE.out]; simp; omega
                        have hany2 : (l.take k).any (closeL y ⟨⟨pr, hn, pa⟩, pd, pg⟩) = true := any_hit (k := j) (x := ⟨⟨qr, qh, qa⟩, qd, qg⟩) (by rw [List.getElem?_take, if_pos hjk]; exact HQ.out) hcl
                        have hone : chkOne x y gr (l.take k) ⟨⟨pr, hn, pa⟩, pd, pg⟩ = 15 := by
                          unfold chkOne; simp only [HKN.out, HGA.out]; rw [if_neg (by simp [HGG.out]), if_neg HLO.out, HTK.out]; simp only [hany2]; rfl
                        have HALL := Lib.hid (chk_stop HS.out HSIM.out HP.out hone (by decide))
                        clear hcl hany2 hone
                        go_wp2_with (go_at_call 25; refine (plays_f' _ _ _ _ _).mono ?_; rintro e w1 ⟨rfl, hb1⟩; obtain ⟨cc, cf⟩ := bcell hb1; (first | have hcur := cur_step1 hcur hb1 | have hcur := cur_step0 hb1); have z1 : wr.heap.size < w1.heap.size := (by have q := hb1.size; (try simp at q); omega); have z2 : w.heap.size < w1.heap.size := (by omega); have z3 : wo.heap.size < w1.heap.size := (by omega))
                        go_ret2
                        exact ⟨by rw [HALL.out]; rfl, (HK6.out.to hcur).1⟩
                      · have hcl : closeL y ⟨⟨pr, hn, pa⟩, pd, pg⟩ ⟨⟨qr, qh, qa⟩, qd, qg⟩ = true := by unfold closeL; simp only [HE.out]; simp; omega
                        have hany2 : (l.take k).any (closeL y ⟨⟨pr, hn, pa⟩, pd, pg⟩) = true := any_hit (k := j) (x := ⟨⟨qr, qh, qa⟩, qd, qg⟩) (by rw [List.getElem?_take, if_pos hjk]; exact HQ.out) hcl
                        have hone : chkOne x y gr (l.take k) ⟨⟨pr, hn, pa⟩, pd, pg⟩ = 15 := by
                          unfold chkOne; simp only [HKN.out, HGA.out]; rw [if_neg (by simp [HGG.out]), if_neg HLO.out, HTK.out]; simp only [hany2]; rfl
                        have HALL := Lib.hid (chk_stop HS.out HSIM.out HP.out hone (by decide))
                        clear hcl hany2 hone
                        go_wp2_with (go_at_call 25; refine (plays_f' _ _ _ _ _).mono ?_; rintro e w1 ⟨rfl, hb1⟩; obtain ⟨cc, cf⟩ := bcell hb1; (first | have hcur := cur_step1 hcur hb1 | have hcur := cur_step0 hb1); have z1 : wr.heap.size < w1.heap.size := (by have q := hb1.size; (try simp at q); omega); have z2 : w.heap.size < w1.heap.size := (by omega); have z3 : wo.heap.size < w1.heap.size := (by omega))
                        go_ret2
                        exact ⟨by rw [HALL.out]; rfl, (HK6.out.to hcur).1⟩
                      · have hcl : closeL y ⟨⟨pr, hn, pa⟩, pd, pg⟩ ⟨⟨qr, qh, qa⟩, qd, qg⟩ = false := by unfold closeL; simp only [HE.out]; simp <;> omega
                        have hany2 : (l.take (j + 1)).any (closeL y ⟨⟨pr, hn, pa⟩, pd, pg⟩) = false := any_miss HQ.out HANY.out hcl
                        have HAN := Lib.hid hany2
                        clear hcl hany2
                        go_wp2_with (go_at_call 25; refine (plays_f' _ _ _ _ _).mono ?_; rintro e w1 ⟨rfl, hb1⟩; obtain ⟨cc, cf⟩ := bcell hb1; (first | have hcur := cur_step1 hcur hb1 | have hcur := cur_step0 hb1); have z1 : wr.heap.size < w1.heap.size := (by have q := hb1.size; (try simp at q); omega); have z2 : w.heap.size < w1.heap.size := (by omega); have z3 : wo.heap.size < w1.heap.size := (by omega))
                        go_roundw
                        case rel => exact ClI.next HB6.out hcur hjk HAN.out
                        case measure => simp [intOf]; omega
                      · have hcl : closeL y ⟨⟨pr, hn, pa⟩, pd, pg⟩ ⟨⟨qr, qh, qa⟩, qd, qg⟩ = false := by unfold closeL; simp only [HE.out]; simp <;> omega
                        have hany2 : (l.take (j + 1)).any (closeL y ⟨⟨pr, hn, pa⟩, pd, pg⟩) = false := any_miss HQ.out HANY.out hcl
                        have HAN := Lib.hid hany2
                        clear hcl hany2
                        go_wp2_with (go_at_call 25; refine (plays_f' _ _ _ _ _).mono ?_; rintro e w1 ⟨rfl, hb1⟩; obtain ⟨cc, cf⟩ := bcell hb1; (first | have hcur := cur_step1 hcur hb1 | have hcur := cur_step0 hb1); have z1 : wr.heap.size < w1.heap.size := (by have q := hb1.size; (try simp at q); omega); have z2 : w.heap.size < w1.heap.size := (by omega); have z3 : wo.heap.size < w1.heap.size := (by omega))
                        go_roundw
                        case rel => exact ClI.next HB6.out hcur hjk HAN.out
                        case measure => simp [intOf]; omega
                    · have e5 : playsL ⟨qr, qh, qa⟩ hn = false := by simpa using e5
                      have HE := Lib.hid e5
                      by_cases e6 : playsL ⟨qr, qh, qa⟩ pa = true
                      · have HF := Lib.hid e6
                        rcases hdist with ⟨d1, d2⟩ | ⟨d1, d2⟩ | ⟨d1, d2⟩ | ⟨d1, d2⟩
                        · have hcl : closeL y ⟨⟨pr, hn, pa⟩, pd, pg⟩ ⟨⟨qr, qh, qa⟩, qd, qg⟩ = true := by unfold closeL; simp only [HE.out, HF.out]; simp; omega
                          have hany2 : (l.take k).any (closeL y ⟨⟨pr, hn, pa⟩, pd, pg⟩) = true := any_hit (k := j) (x := ⟨⟨qr, qh, qa⟩, qd, qg⟩) (by rw [List.getElem?_take, if_pos hjk]; exact HQ.out) hcl
                          have hone : chkOne x y gr (l.take k) ⟨⟨pr, hn, pa⟩, pd, pg⟩ = 15 := by
                            unfold chkOne; simp only [HKN.out, HGA.out]; rw [if_neg (by simp [HGG.out]), if_neg HLO.out, HTK.out]; simp only [hany2]; rfl
                          have HALL := Lib.hid (chk_stop HS.out HSIM.out HP.out hone (by decide))
                          clear hcl hany2 hone
                          go_wp2_with (go_at_call 25; refine (plays_f' _ _ _ _ _).mono ?_; rintro e w1 ⟨rfl, hb1⟩; obtain ⟨cc, cf⟩ := bcell hb1; (first | have hcur := cur_step1 hcur hb1 | have hcur := cur_step0 hb1); have z1 : wr.heap.size < w1.heap.size := (by have q := hb1.size; (try simp at q); omega); have z2 : w.heap.size < w1.heap.size := (by omega); have z3 : wo.heap.size < w1.heap.size := (by omega))
                          go_ret2
                          exact ⟨by rw [HALL.out]; rfl, (HK6.out.to hcur).1⟩
                        · have hcl : closeL y ⟨⟨pr, hn, pa⟩, pd, pg⟩ ⟨⟨qr, qh, qa⟩, qd, qg⟩ = true := by unfold closeL; simp only [HE.out, HF.out]; simp; omega
                          have hany2 : (l.take k).any (closeL y ⟨⟨pr, hn, pa⟩, pd, pg⟩) = true := any_hit (k := j) (x := ⟨⟨qr, qh, qa⟩, qd, qg⟩) (by rw [List.getElem?_take, if_pos hjk]; exact HQ.out) hcl
                          have hone : chkOne x y gr (l.take k) ⟨⟨pr, hn, pa⟩, pd, pg⟩ = 15 := by
                            unfold chkOne; simp only [HKN.out, HGA.out]; rw [if_neg (by simp [HGG.out]), if_neg HLO.out, HTK.out]; simp only [hany2]; rfl
                          have HALL := Lib.hid (chk_stop HS.out HSIM.out HP.out hone (by decide))
                          clear hcl hany2 hone
                          go_wp2_with (go_at_call 25; refine (plays_f' _ _ _ _ _).mono ?_; rintro e w1 ⟨rfl, hb1⟩; obtain ⟨cc, cf⟩ := bcell hb1; (first | have hcur := cur_step1 hcur hb1 | have hcur := cur_step0 hb1); have z1 : wr.heap.size < w1.heap.size := (by have q := hb1.size; (try simp at q); omega); have z2 : w.heap.size < w1.heap.size := (by omega); have z3 : wo.heap.size < w1.heap.size := (by omega))
                          go_ret2
                          exact ⟨by rw [HALL.out]; rfl, (HK6.out.to hcur).1⟩
                        · have hcl : closeL y ⟨⟨pr, hn, pa⟩, pd, pg⟩ ⟨⟨qr, qh, qa⟩, qd, qg⟩ = false := by unfold closeL; simp only [HE.out, HF.out]; simp <;> omega
                          have hany2 : (l.take (j + 1)).any (closeL y ⟨⟨pr, hn, pa⟩, pd, pg⟩) = false := any_miss HQ.out HANY.out hcl
                          have HAN := Lib.hid hany2
                          clear hcl hany2
                          go_wp2_with (go_at_call 25; refine (plays_f' _ _ _ _ _).mono ?_; rintro e w1 ⟨rfl, hb1⟩; obtain ⟨cc, cf⟩ := bcell hb1; (first | have hcur := cur_step1 hcur hb1 | have hcur := cur_step0 hb1); have z1 : wr.heap.size < w1.heap.size := (by have q := hb1.size; (try simp at q); omega); have z2 : w.heap.size < w1.heap.size := (by omega); have z3 : wo.heap.size < w1.heap.size := (by omega))
                          go_roundw
                          case rel => exact ClI.next HB6.out hcur hjk HAN.out
                          case measure => simp [intOf]; omega
                        · have hcl : closeL y ⟨⟨pr, hn, pa⟩, pd, pg⟩ ⟨⟨qr, qh, qa⟩, qd, qg⟩ = false := by unfold closeL; simp only [HE.out, HF.out]; simp <;> omega
                          have hany2 : (l.take (j + 1)).any (closeL y ⟨⟨pr, hn, pa⟩, pd, pg⟩) = false := any_miss HQ.out HANY.out hcl
                          have HAN := Lib.hid hany2
                          clear hcl hany2
                          go_wp2_with (go_at_call 25; refine (plays_f' _ _ _ _ _).mono ?_; rintro e w1 ⟨rfl, hb1⟩; obtain ⟨cc, cf⟩ := bcell hb1; (first | have hcur := cur_step1 hcur hb1 | have hcur := cur_step0 hb1); have z1 : wr.heap.size < w1.heap.size := (by have q := hb1.size; (try simp at q); omega); have z2 : w.heap.size < w1.heap.size := (by omega); have z3 : wo.heap.size < w1.heap.size := (by omega))
                          go_roundw
                          case rel => exact ClI.next HB6.out hcur hjk HAN.out
                          case measure => simp [intOf]; omega
                      · have e6 : playsL ⟨qr, qh, qa⟩ pa = false := by simpa using e6
                        have HF := Lib.hid e6
                        clear hdist
                        have hcl : closeL y ⟨⟨pr, hn, pa⟩, pd, pg⟩ ⟨⟨qr, qh, qa⟩, qd, qg⟩ = false := by unfold closeL; simp only [HE.out, HF.out]; simp 
                        have hany2 : (l.take (j + 1)).any (closeL y ⟨⟨pr, hn, pa⟩, pd, pg⟩) = false := any_miss HQ.out HANY.out hcl
                        have HAN := Lib.hid hany2
                        clear hcl hany2
                        go_wp2_with (go_at_call 25; refine (plays_f' _ _ _ _ _).mono ?_; rintro e w1 ⟨rfl, hb1⟩; obtain ⟨cc, cf⟩ := bcell hb1; (first | have hcur := cur_step1 hcur hb1 | have hcur := cur_step0 hb1); have z1 : wr.heap.size < w1.heap.size := (by have q := hb1.size; (try simp at q); omega); have z2 : w.heap.size < w1.heap.size := (by omega); have z3 : wo.heap.size < w1.heap.size := (by omega))
                        go_roundw
                        case rel => exact ClI.next HB6.out hcur hjk HAN.out
                        case measure => simp [intOf]; omega
                  · have hjk2 : j = k := by omega
                    have hone : chkOne x y gr (l.take k) ⟨⟨pr, hn, pa⟩, pd, pg⟩ = 0 := by
                      have h9 := HANY.out
                      rw [hjk2] at h9
                      unfold chkOne; simp only [HKN.out, HGA.out]; rw [if_neg (by simp [HGG.out]), if_neg HLO.out, HTK.out]; simp only [h9]; rfl
                    have HGO := Lib.hid (chk_go HSIM.out HP.out hone)
                    have K7 := Keep.sub HK6.out (fun c hc => List.mem_append_right _ hc)
                    clear hone K6 hb6 hjk2
                    go_wp2
                    go_roundw
                    case rel => exact ⟨k + 1, hlt, by simp, HGO.out, K7⟩
                    case measure => simp [intOf]; omega
          · have e1 : (pg != gv) = true := by simp [hgg]
            have hone : chkOne x y gr (l.take k) ⟨⟨pr, hn, pa⟩, pd, pg⟩ = 1 := by
              unfold chkOne; simp only [HKN.out, HGA.out]; rw [if_pos (.inr hgg)]
            have HALL := Lib.hid (chk_stop HS.out HSIM.out HP.out hone (by decide))
            have hbe := HK4.out.1
            clear hone hgg
            simp only [e1]
            go_wp2
            go_ret2
            exact ⟨by rw [HALL.out]; rfl, hbe⟩
        · have hkn : knownL ⟨pr, ph, pa⟩ gr.length = false := by simpa using hkn
          have hone : chkOne x y gr (l.take k) ⟨⟨pr, ph, pa⟩, pd, pg⟩ = 1 := by unfold chkOne; rw [if_pos (.inl hkn)]
          have HALL := Lib.hid (chk_stop HS.out HSIM.out HP.out hone (by decide))
          have HKN := Lib.hid hkn
          clear hone
          obtain ⟨CS, hCS⟩ : ∃ CS : List (Nat × Nat × Value), CS = ([(wo.heap.size, 0, .int .i64 pr), (wo.heap.size, 1, .int .i64 ph), (wo.heap.size, 2, .int .i64 pa), (wo.heap.size, 3, .int .i64 pd), (wo.heap.size, 4, .int .i64 pg)] ++ [(w.heap.size, 0, .int .i64 x), (w.heap.size, 1, .int .i64 y), (w.heap.size, 2, .slice G gr.length gc)]) := ⟨_, rfl⟩
          have K3 : Keep w (wo.alloc (.cells #[.int .i64 pr, .int .i64 ph, .int .i64 pa, .int .i64 pd, .int .i64 pg] 39)) CS := by rw [hCS]; exact Keep.more (HK.out.to (cur_new wo _)) (by simp)
          have k0 : ∀ s : Wd w CS, s.w.cell? ⟨wo.heap.size, 0, none⟩ = some (.int .i64 pr) := fun s => s.h.get (by simp [hCS])
          have k1 : ∀ s : Wd w CS, s.w.cell? ⟨wo.heap.size, 1, none⟩ = some (.int .i64 ph) := fun s => s.h.get (by simp [hCS])
          have k2 : ∀ s : Wd w CS, s.w.cell? ⟨wo.heap.size, 2, none⟩ = some (.int .i64 pa) := fun s => s.h.get (by simp [hCS])
          have j0 : ∀ s : Wd w CS, s.w.cell? ⟨w.heap.size, 0, none⟩ = some (.int .i64 x) := fun s => s.h.get (by simp [hCS])
          have j1 : ∀ s : Wd w CS, s.w.cell? ⟨w.heap.size, 1, none⟩ = some (.int .i64 y) := fun s => s.h.get (by simp [hCS])
          have j2 : ∀ s : Wd w CS, s.w.cell? ⟨w.heap.size, 2, none⟩ = some (.slice G gr.length gc) := fun s => s.h.get (by simp [hCS])
          have hex : ∀ s : Wd w CS, ∃ s' : Wd w CS, s.w = s'.w := fun s => ⟨s, rfl⟩
          haveI hne : Nonempty (Wd w CS) := ⟨⟨_, K3⟩⟩
          clear hCS
          go_wp2_with fail
          refine wp_region_wd w CS (by kernel_rfl) (by kernel_rfl) K3.drew ?_
          repeat (go_big_quiet_step ((go_at_call 24; refine (known_fno _ _ _ _ _ _ _ _ _ HKN.out).mono ?_; rintro e w4 ⟨rfl, hb4⟩; exact ⟨rfl, ⟨w4, (Wd.h _).to hb4⟩, rfl⟩)))
          refine wpQuiet_nil ?_
          rintro w4 ⟨s4, hs4⟩
          have K4 : Keep w w4 CS := by rw [hs4]; exact s4.h
          clear hs4 s4
          have hbe := K4.1
          clear k0 k1 k2 j0 j1 j2 hex hne K3 K4
          (try simp only [])
          go_wp2
          go_ret2
          exact ⟨by rw [HALL.out]; rfl, hbe⟩
      · have hkl : k = l.length := by omega
        have hall : chkAll l x y gr = (-1, 0) := by
          unfold chkAll; rw [if_pos HS.out, ← HSIM.out, hkl, List.drop_length]; rfl
        have HALL := Lib.hid hall
        clear hall hkl hsim hK
        go_wp2
        go_ret2
        exact ⟨by rw [HALL.out]; rfl, hbw⟩
  · have e0 : (seasonL l.length x y gr != 0) = true := by simpa using hs
    have hall : chkAll l x y gr = (-1, seasonL l.length x y gr) := by unfold chkAll; rw [if_neg hs]
    have HALL := Lib.hid hall
    clear hs hall
    go_enter Try.func14, Try.ntmps14
    go_wp2_with (go_at_call 23; refine (season_f _ _ _ _ _ _ _ (hg.to (cur_new _ _)) hgl).mono ?_; rintro e w1 ⟨rfl, hb1⟩)
    go_ret2
    exact ⟨by rw [HALL.out]; rfl, cur_step0 hb1⟩
end Go.Proofs.Ythoocjcbpjdjhaa
