/-
  Chapter 49: CheckPlaced of the reference.
-/
import Derived.Test.YthoocjcbpjdjhaaChk49
namespace Go.Proofs.Ythoocjcbpjdjhaa
open Go.RowKit

def TkI (W : World) (k : Nat) (l : List Pf) (g d : Int) (i : Value) (wr : World) : Prop :=
  ∃ j : Nat, j ≤ k ∧ i = .int .i64 j ∧ takenL (l.take j) g d = false ∧ Below W.heap.size W wr
theorem known_ryes (r h a x y : Int) (A : Option Addr) (n c : Nat) (w : World) (hk : knownL ⟨r, h, a⟩ n = true) :
    Calls Try.prog 28 #[.agg #[.int .i64 r, .int .i64 h, .int .i64 a], .agg #[.int .i64 x, .int .i64 y, .slice A n c]] w fun e w' => e = .returned (.bool true) ∧ Below w.heap.size w w' := by
  have := known_r' r h a x y A n c w
  rwa [hk] at this
theorem known_rno (r h a x y : Int) (A : Option Addr) (n c : Nat) (w : World) (hk : knownL ⟨r, h, a⟩ n = false) :
    Calls Try.prog 28 #[.agg #[.int .i64 r, .int .i64 h, .int .i64 a], .agg #[.int .i64 x, .int .i64 y, .slice A n c]] w fun e w' => e = .returned (.bool false) ∧ Below w.heap.size w w' := by
  have := known_r' r h a x y A n c w
  rwa [hk] at this

set_option maxRecDepth 100000 in
set_option maxHeartbeats 4000000 in
theorem chk_r (A G : Option Addr) (c gc : Nat) (l : List Pf) (x y : Int) (gr : List Int) (w : World) (hl : l.length ≤ 9223372036854775807) (hlc : l.length ≤ c) (hgl : gr.length ≤ 9223372036854775807)
    (hr : Rd pfE 5 w w.heap.size A l) (hg : Rd inE 1 w w.heap.size G gr) (hd : ∀ p ∈ l, -1000 ≤ p.d ∧ p.d ≤ 1000000) :
    Calls Try.prog 15 #[.slice A l.length c, .agg #[.int .i64 x, .int .i64 y, .slice G gr.length gc]] w (ChPost w l x y gr) := by
  by_cases hs : seasonL l.length x y gr = 0
  · have hbd := season_ok hs
    have e0 : (seasonL l.length x y gr != 0) = false := by simp [hs]
    have HS := Lib.hid hs
    clear hs
    go_enter Try.func15, Try.ntmps15
    go_wp2_with (go_at_call 27; refine (season_r _ _ _ _ _ _ _ (hg.to (cur_new _ _)) hgl).mono ?_; rintro e w1 ⟨rfl, hb1⟩)
    have K1 : Keep w w1 [(w.heap.size, 0, .int .i64 x), (w.heap.size, 1, .int .i64 y), (w.heap.size, 2, .slice G gr.length gc)] := Keep.to (Keep.start (cur_new w _) (by simp)) hb1
    go_loopw [22] (ChI w l x y G gc gr) (fun i _ => l.length - (intOf i).toNat)
    case atStart => exact ⟨0, Nat.zero_le _, rfl, rfl, K1⟩
    case round =>
      clear hb1 K1
      obtain ⟨k, hk, rfl, hsim, hK⟩ := hrel
      have HSIM := Lib.hid hsim
      have HK := Lib.hid hK
      have s0 := hK.get (b := w.heap.size) (o := 0) (v := .int .i64 x) (by simp)
      have s1 := hK.get (b := w.heap.size) (o := 1) (v := .int .i64 y) (by simp)
      have s2 := hK.get (b := w.heap.size) (o := 2) (v := .slice G gr.length gc) (by simp)
      have zs := hK.lt (b := w.heap.size) (o := 0) (v := .int .i64 x) (by simp)
      have hbw := hK.1
      by_cases hlt : k < l.length
      · obtain ⟨p, hp⟩ : ∃ p, l[k]? = some p := ⟨_, List.getElem?_eq_getElem hlt⟩
        obtain ⟨b, off, rfl, hbb, c0, c1, c2, c3, c4⟩ := rdPf hr hbw hp
        have hpd := hd p (List.mem_of_getElem? hp)
        obtain ⟨⟨pr, ph, pa⟩, pd, pg⟩ := p
        have HP := Lib.hid hp
        have hHB := Lib.hid hbw
        simp only [] at hpd
        clear hp hsim hK hbw
        obtain ⟨wo, rfl⟩ : ∃ wo : World, wo = wr := ⟨_, rfl⟩
        by_cases hkn : knownL ⟨pr, ph, pa⟩ gr.length = true
        · have hkk := known_ok hkn
          simp only [] at hkk
          obtain ⟨hn, rfl⟩ : ∃ hn : Nat, ph = hn := ⟨ph.toNat, by omega⟩
          obtain ⟨gv, hgv⟩ : ∃ gv, gr[hn]? = some gv := ⟨_, List.getElem?_eq_getElem (by omega)⟩
          have hga : grAt gr hn = gv := by unfold grAt; simp [List.getD, hgv]
          have HGA := Lib.hid hga
          have HKN := Lib.hid hkn
          obtain ⟨gb, goff, rfl, hgb, gw⟩ := rdIn hg (Below.refl _ _) hgv
          have l3 : gb < wo.heap.size := by omega
          have m1 : wo.heap.size ≠ w.heap.size := by omega
          have m2 : wo.heap.size ≠ gb := by omega
          clear hgv hga
          obtain ⟨CS, hCS⟩ : ∃ CS : List (Nat × Nat × Value), CS = ([(wo.heap.size, 0, .int .i64 pr), (wo.heap.size, 1, .int .i64 hn), (wo.heap.size, 2, .int .i64 pa), (wo.heap.size, 3, .int .i64 pd), (wo.heap.size, 4, .int .i64 pg)] ++ [(w.heap.size, 0, .int .i64 x), (w.heap.size, 1, .int .i64 y), (w.heap.size, 2, .slice (some ⟨gb, goff, none⟩) gr.length gc)]) := ⟨_, rfl⟩
          have K3 : Keep w (wo.alloc (.cells #[.int .i64 pr, .int .i64 hn, .int .i64 pa, .int .i64 pd, .int .i64 pg] 39)) CS := by rw [hCS]; exact Keep.more (HK.out.to (cur_new wo _)) (by simp)
          have k0 : ∀ s : Wd w CS, s.w.cell? ⟨wo.heap.size, 0, none⟩ = some (.int .i64 pr) := fun s => s.h.get (by simp [hCS])
          have k1 : ∀ s : Wd w CS, s.w.cell? ⟨wo.heap.size, 1, none⟩ = some (.int .i64 hn) := fun s => s.h.get (by simp [hCS])
          have k2 : ∀ s : Wd w CS, s.w.cell? ⟨wo.heap.size, 2, none⟩ = some (.int .i64 pa) := fun s => s.h.get (by simp [hCS])
          have k4 : ∀ s : Wd w CS, s.w.cell? ⟨wo.heap.size, 4, none⟩ = some (.int .i64 pg) := fun s => s.h.get (by simp [hCS])
          have j0 : ∀ s : Wd w CS, s.w.cell? ⟨w.heap.size, 0, none⟩ = some (.int .i64 x) := fun s => s.h.get (by simp [hCS])
          have j1 : ∀ s : Wd w CS, s.w.cell? ⟨w.heap.size, 1, none⟩ = some (.int .i64 y) := fun s => s.h.get (by simp [hCS])
          have j2 : ∀ s : Wd w CS, s.w.cell? ⟨w.heap.size, 2, none⟩ = some (.slice (some ⟨gb, goff, none⟩) gr.length gc) := fun s => s.h.get (by simp [hCS])
          have j3 : ∀ s : Wd w CS, s.w.cell? ⟨gb, goff + hn, none⟩ = some (.int .i64 gv) := fun s => (s.h.1.cell (p := ⟨gb, goff + hn, none⟩) hgb).trans gw
          have hex : ∀ s : Wd w CS, ∃ s' : Wd w CS, s.w = s'.w := fun s => ⟨s, rfl⟩
          haveI hne : Nonempty (Wd w CS) := ⟨⟨_, K3⟩⟩
          have HCS := Lib.hid hCS
          clear hCS
          go_wp2_with fail
          refine wp_region_wd w CS (by kernel_rfl) (by kernel_rfl) K3.drew ?_
          repeat (go_big_quiet_step ((go_at_call 28; refine (known_ryes _ _ _ _ _ _ _ _ _ HKN.out).mono ?_; rintro e w4 ⟨rfl, hb4⟩; exact ⟨rfl, ⟨w4, (Wd.h _).to hb4⟩, rfl⟩)))
          refine wpQuiet_nil ?_
          rintro w4 ⟨s4, hs4⟩
          have K4 : Keep w w4 CS := by rw [hs4]; exact s4.h
          clear hs4 s4
          rw [HCS.out] at K4
          clear k0 k1 k2 k4 j0 j1 j2 j3 hex hne K3 HCS
          (try simp only [])
          have HK4 := Lib.hid K4
          have q1 := K4.get (b := wo.heap.size) (o := 1) (v := .int .i64 hn) (by simp)
          have q2 := K4.get (b := wo.heap.size) (o := 2) (v := .int .i64 pa) (by simp)
          have q3 := K4.get (b := wo.heap.size) (o := 3) (v := .int .i64 pd) (by simp)
          have q4 := K4.get (b := wo.heap.size) (o := 4) (v := .int .i64 pg) (by simp)
          have t0 := K4.get (b := w.heap.size) (o := 0) (v := .int .i64 x) (by simp)
          have y1 := K4.lt (b := wo.heap.size) (o := 1) (v := .int .i64 hn) (by simp)
          clear K4
          by_cases hgg : pg = gv
          · have HGG := Lib.hid hgg
            have e1 : (pg != gv) = false := by simp [hgg]
            clear hgg
            simp only [e1]
            by_cases hlo : pd < x ∨ 109572 < pd
            · have hone : chkOne x y gr (l.take k) ⟨⟨pr, hn, pa⟩, pd, pg⟩ = 2 := by
                unfold chkOne; simp only [HKN.out, HGA.out]; rw [if_neg (by simp [HGG.out]), if_pos hlo]
              have HALL := Lib.hid (chk_stop HS.out HSIM.out HP.out hone (by decide))
              have hbe := HK4.out.1
              clear hone
              by_cases hlo1 : pd < x
              · clear hlo
                go_wp2
                go_ret2
                exact ⟨by rw [HALL.out]; rfl, hbe⟩
              · have hlo2 : 109572 < pd := by omega
                clear hlo
                go_wp2
                go_ret2
                exact ⟨by rw [HALL.out]; rfl, hbe⟩
            · have h2a : ¬ pd < x := by omega
              have h2b : ¬ 109572 < pd := by omega
              have HLO := Lib.hid hlo
              clear hlo
              have hkc : k ≤ c := by omega
              have hlk : (l.take k).length = k := by rw [List.length_take]; omega
              go_wp2
              go_loopw [60] (TkI w4 k l pg pd) (fun i _ => k - (intOf i).toNat)
              case atStart => exact ⟨0, Nat.zero_le _, rfl, rfl, Below.refl _ _⟩
              case round =>
                obtain ⟨j, hj, rfl, hany, hb5⟩ := hrel
                have HANY := Lib.hid hany
                have K5 := HK4.out.to hb5
                have g3 := K5.get (b := wo.heap.size) (o := 3) (v := .int .i64 pd) (by simp)
                have g4 := K5.get (b := wo.heap.size) (o := 4) (v := .int .i64 pg) (by simp)
                have y1 := K5.lt (b := wo.heap.size) (o := 4) (v := .int .i64 pg) (by simp)
                have HK5 := Lib.hid K5
                have HB5 := Lib.hid hb5
                have hsz5 := hb5.size
                clear hany
                by_cases hjk : j < k
                · obtain ⟨q, hq⟩ : ∃ q, l[j]? = some q := ⟨_, List.getElem?_eq_getElem (by omega)⟩
                  obtain ⟨b', off', e', _, u0, u1, u2, u3, u4⟩ := rdPf hr K5.1 hq
                  injection e' with e'
                  injection e' with ee1 ee2 _
                  subst ee1 ee2
                  obtain ⟨⟨qr, qh, qa⟩, qd, qg⟩ := q
                  have HQ := Lib.hid hq
                  clear hq K5 hb5
                  have hjl : j < l.length := by omega
                  by_cases h1 : qg = pg
                  · have E1 := Lib.hid h1
                    have e5 : (qg == pg) = true := by simpa using h1
                    by_cases h2 : qd = pd
                    · have E2 := Lib.hid h2
                      have e6 : (qd == pd) = true := by simpa using h2
                      have htk : takenL (l.take k) pg pd = true := any_hit (k := j) (x := ⟨⟨qr, qh, qa⟩, qd, qg⟩) (by rw [List.getElem?_take, if_pos hjk]; exact HQ.out) (by simp [h1, h2])
                      have hone : chkOne x y gr (l.take k) ⟨⟨pr, hn, pa⟩, pd, pg⟩ = 13 := by
                        unfold chkOne; simp only [HKN.out, HGA.out]; rw [if_neg (by simp [HGG.out]), if_neg HLO.out, if_pos htk]
                      have HALL := Lib.hid (chk_stop HS.out HSIM.out HP.out hone (by decide))
                      have hbe := (HK5.out.to (cur_new _ (.cells #[.int .i64 qr, .int .i64 qh, .int .i64 qa, .int .i64 qd, .int .i64 qg] 39))).1
                      clear hone htk h1 h2
                      go_wp2
                      go_ret2
                      exact ⟨by rw [HALL.out]; rfl, hbe⟩
                    · have e6 : (qd == pd) = false := by simpa using h2
                      have hm : takenL (l.take (j + 1)) pg pd = false := any_miss HQ.out HANY.out (by simp [e6])
                      have HM := Lib.hid hm
                      clear hm h1 h2
                      go_wp2
                      go_roundw
                      case rel => exact ⟨j + 1, hjk, by simp, HM.out, cur_step1 HB5.out (cur_new _ _)⟩
                      case measure => simp [intOf]; omega
                  · have e5 : (qg == pg) = false := by simpa using h1
                    have hm : takenL (l.take (j + 1)) pg pd = false := any_miss HQ.out HANY.out (by simp [e5])
                    have HM := Lib.hid hm
                    clear hm h1
                    go_wp2
                    go_roundw
                    case rel => exact ⟨j + 1, hjk, by simp, HM.out, cur_step1 HB5.out (cur_new _ _)⟩
                    case measure => simp [intOf]; omega
                · have hjk2 : j = k := by omega
                  have htk : takenL (l.take k) pg pd = false := by rw [← hjk2]; exact HANY.out
                  have HTK := Lib.hid htk
                  obtain ⟨w5, rfl⟩ : ∃ w5 : World, w5 = wr := ⟨_, rfl⟩
                  clear htk hjk2 hb5 K5 g3 g4 y1 hsz5 HB5
                  go_wp2
                  go_loopw [82] (ClI w5 k l y ⟨⟨pr, hn, pa⟩, pd, pg⟩) (fun i _ => k - (intOf i).toNat)
                  case atStart => exact ⟨0, Nat.zero_le _, rfl, rfl, Below.refl _ _⟩
                  case round =>
                    obtain ⟨j, hj, rfl, hany, hb6⟩ := hrel
                    have HANY := Lib.hid hany
                    have K6 := HK5.out.to hb6
                    have g1 := K6.get (b := wo.heap.size) (o := 1) (v := .int .i64 hn) (by simp)
                    have g2 := K6.get (b := wo.heap.size) (o := 2) (v := .int .i64 pa) (by simp)
                    have g3 := K6.get (b := wo.heap.size) (o := 3) (v := .int .i64 pd) (by simp)
                    have g4 := K6.get (b := w.heap.size) (o := 1) (v := .int .i64 y) (by simp)
                    have y1 := K6.lt (b := wo.heap.size) (o := 1) (v := .int .i64 hn) (by simp)
                    have y2 := K6.lt (b := w.heap.size) (o := 1) (v := .int .i64 y) (by simp)
                    have HK6 := Lib.hid K6
                    have HB6 := Lib.hid hb6
                    clear hany
                    by_cases hjk : j < k
                    · obtain ⟨q, hq⟩ : ∃ q, l[j]? = some q := ⟨_, List.getElem?_eq_getElem (by omega)⟩
                      obtain ⟨b', off', e', _, u0, u1, u2, u3, u4⟩ := rdPf hr K6.1 hq
                      injection e' with e'
                      injection e' with ee1 ee2 _
                      subst ee1 ee2
                      have hqd := hd q (List.mem_of_getElem? hq)
                      obtain ⟨⟨qr, qh, qa⟩, qd, qg⟩ := q
                      have HQ := Lib.hid hq
                      simp only [] at hqd
                      clear hq K6 hb6
                      have hjl : j < l.length := by omega
                      have hdist : (pd - qd < qd - pd ∧ qd - pd ≤ y) ∨ (¬ pd - qd < qd - pd ∧ pd - qd ≤ y) ∨ (pd - qd < qd - pd ∧ ¬ qd - pd ≤ y) ∨ (¬ pd - qd < qd - pd ∧ ¬ pd - qd ≤ y) := by omega
                      by_cases e5 : playsL ⟨qr, qh, qa⟩ hn = true
                      · have HE := Lib.hid e5
                        rcases hdist with ⟨d1, d2⟩ | ⟨d1, d2⟩ | ⟨d1, d2⟩ | ⟨d1, d2⟩
                        · have hcl : closeL y ⟨⟨pr, hn, pa⟩, pd, pg⟩ ⟨⟨qr, qh, qa⟩, qd, qg⟩ = true := by unfold closeL; simp only [HE.out]; simp; omega
                          have hany2 : (l.take k).any (closeL y ⟨⟨pr, hn, pa⟩, pd, pg⟩) = true := any_hit (k := j) (x := ⟨⟨qr, qh, qa⟩, qd, qg⟩) (by rw [List.getElem?_take, if_pos hjk]; exact HQ.out) hcl
                          have hone : chkOne x y gr (l.take k) ⟨⟨pr, hn, pa⟩, pd, pg⟩ = 15 := by
                            unfold chkOne; simp only [HKN.out, HGA.out]; rw [if_neg (by simp [HGG.out]), if_neg HLO.out, HTK.out]; simp only [hany2]; rfl
                          have HALL := Lib.hid (chk_stop HS.out HSIM.out HP.out hone (by decide))
                          clear hcl hany2 hone
                          go_wp2_with (go_at_call 31; refine (plays_r' _ _ _ _ _).mono ?_; rintro e w1 ⟨rfl, hb1⟩; obtain ⟨cc, cf⟩ := bcell hb1; (first | have hcur := cur_step1 hcur hb1 | have hcur := cur_step0 hb1); have z1 : wr.heap.size < w1.heap.size := (by have q := hb1.size; (try simp at q); omega); have z2 : w.heap.size < w1.heap.size := (by omega); have z3 : wo.heap.size < w1.heap.size := (by omega))
                          go_ret2
                          exact ⟨by rw [HALL.out]; rfl, (HK6.out.to hcur).1⟩
                        · have hcl : closeL y ⟨⟨pr, hn, pa⟩, pd, pg⟩ ⟨⟨qr, qh, qa⟩, qd, qg⟩ = true := by unfold closeL; simp only [HE.out]; simp; omega
                          have hany2 : (l.take k).any (closeL y ⟨⟨pr, hn, pa⟩, pd, pg⟩) = true := any_hit (k := j) (x := ⟨⟨qr, qh, qa⟩, qd, qg⟩) (by rw [List.getElem?_take, if_pos hjk]; exact HQ.out) hcl
                          have hone : chkOne x y gr (l.take k) ⟨⟨pr, hn, pa⟩, pd, pg⟩ = 15 := by
                            unfold chkOne; simp only [HKN.out, HGA.out]; rw [if_neg (by simp [HGG.out]), if_neg HLO.out, HTK.out]; simp only [hany2]; rfl
                          have HALL := Lib.hid (chk_stop HS.out HSIM.out HP.out hone (by decide))
                          clear hcl hany2 hone
                          go_wp2_with (go_at_call 31; refine (plays_r' _ _ _ _ _).mono ?_; rintro e w1 ⟨rfl, hb1⟩; obtain ⟨cc, cf⟩ := bcell hb1; (first | have hcur := cur_step1 hcur hb1 | have hcur := cur_step0 hb1); have z1 : wr.heap.size < w1.heap.size := (by have q := hb1.size; (try simp at q); omega); have z2 : w.heap.size < w1.heap.size := (by omega); have z3 : wo.heap.size < w1.heap.size := (by omega))
                          go_ret2
                          exact ⟨by rw [HALL.out]; rfl, (HK6.out.to hcur).1⟩
                        · have hcl : closeL y ⟨⟨pr, hn, pa⟩, pd, pg⟩ ⟨⟨qr, qh, qa⟩, qd, qg⟩ = false := by unfold closeL; simp only [HE.out]; simp <;> omega
                          have hany2 : (l.take (j + 1)).any (closeL y ⟨⟨pr, hn, pa⟩, pd, pg⟩) = false := any_miss HQ.out HANY.out hcl
                          have HAN := Lib.hid hany2
                          clear hcl hany2
                          go_wp2_with (go_at_call 31; refine (plays_r' _ _ _ _ _).mono ?_; rintro e w1 ⟨rfl, hb1⟩; obtain ⟨cc, cf⟩ := bcell hb1; (first | have hcur := cur_step1 hcur hb1 | have hcur := cur_step0 hb1); have z1 : wr.heap.size < w1.heap.size := (by have q := hb1.size; (try simp at q); omega); have z2 : w.heap.size < w1.heap.size := (by omega); have z3 : wo.heap.size < w1.heap.size := (by omega))
                          go_roundw
                          case rel => exact ClI.next HB6.out hcur hjk HAN.out
                          case measure => simp [intOf]; omega
                        · have hcl : closeL y ⟨⟨pr, hn, pa⟩, pd, pg⟩ ⟨⟨qr, qh, qa⟩, qd, qg⟩ = false := by unfold closeL; simp only [HE.out]; simp <;> omega
                          have hany2 : (l.take (j + 1)).any (closeL y ⟨⟨pr, hn, pa⟩, pd, pg⟩) = false := any_miss HQ.out HANY.out hcl
                          have HAN := Lib.hid hany2
                          clear hcl hany2
                          go_wp2_with (go_at_call 31; refine (plays_r' _ _ _ _ _).mono ?_; rintro e w1 ⟨rfl, hb1⟩; obtain ⟨cc, cf⟩ := bcell hb1; (first | have hcur := cur_step1 hcur hb1 | have hcur := cur_step0 hb1); have z1 : wr.heap.size < w1.heap.size := (by have q := hb1.size; (try simp at q); omega); have z2 : w.heap.size < w1.heap.size := (by omega); have z3 : wo.heap.size < w1.heap.size := (by omega))
                          go_roundw
                          case rel => exact ClI.next HB6.out hcur hjk HAN.out
                          case measure => simp [intOf]; omega
                      · have e5 : playsL ⟨qr, qh, qa⟩ hn = false := by simpa using e5
                        have HE := Lib.hid e5
                        by_cases e6 : playsL ⟨qr, qh, qa⟩ pa = true
                        · have HF := Lib.hid e6
                          rcases hdist with ⟨d1, d2⟩ | ⟨d1, d2⟩ | ⟨d1, d2⟩ | ⟨d1, d2⟩
                          · have hcl : closeL y ⟨⟨pr, hn, pa⟩, pd, pg⟩ ⟨⟨qr, qh, qa⟩, qd, qg⟩ = true := by unfold closeL; simp only [HE.out, HF.out]; simp; omega
                            have hany2 : (l.take k).any (closeL y ⟨⟨pr, hn, pa⟩, pd, pg⟩) = true := any_hit (k := j) (x := ⟨⟨qr, qh, qa⟩, qd, qg⟩) (by rw [List.getElem?_take, if_pos hjk]; exact HQ.out) hcl
                            have hone : chkOne x y gr (l.take k) ⟨⟨pr, hn, pa⟩, pd, pg⟩ = 15 := by
                              unfold chkOne; simp only [HKN.out, HGA.out]; rw [if_neg (by simp [HGG.out]), if_neg HLO.out, HTK.out]; simp only [hany2]; rfl
                            have HALL := Lib.hid (chk_stop HS.out HSIM.out HP.out hone (by decide))
                            clear hcl hany2 hone
                            go_wp2_with (go_at_call 31; refine (plays_r' _ _ _ _ _).mono ?_; rintro e w1 ⟨rfl, hb1⟩; obtain ⟨cc, cf⟩ := bcell hb1; (first | have hcur := cur_step1 hcur hb1 | have hcur := cur_step0 hb1); have z1 : wr.heap.size < w1.heap.size := (by have q := hb1.size; (try simp at q); omega); have z2 : w.heap.size < w1.heap.size := (by omega); have z3 : wo.heap.size < w1.heap.size := (by omega))
                            go_ret2
                            exact ⟨by rw [HALL.out]; rfl, (HK6.out.to hcur).1⟩
                          · have hcl : closeL y ⟨⟨pr, hn, pa⟩, pd, pg⟩ ⟨⟨qr, qh, qa⟩, qd, qg⟩ = true := by unfold closeL; simp only [HE.out, HF.out]; simp; omega
                            have hany2 : (l.take k).any (closeL y ⟨⟨pr, hn, pa⟩, pd, pg⟩) = true := any_hit (k := j) (x := ⟨⟨qr, qh, qa⟩, qd, qg⟩) (by rw [List.getElem?_take, if_pos hjk]; exact HQ.out) hcl
                            have hone : chkOne x y gr (l.take k) ⟨⟨pr, hn, pa⟩, pd, pg⟩ = 15 := by
                              unfold chkOne; simp only [HKN.out, HGA.out]; rw [if_neg (by simp [HGG.out]), if_neg HLO.out, HTK.out]; simp only [hany2]; rfl
                            have HALL := Lib.hid (chk_stop HS.out HSIM.out HP.out hone (by decide))
                            clear hcl hany2 hone
                            go_wp2_with (go_at_call 31; refine (plays_r' _ _ _ _ _).mono ?_; rintro e w1 ⟨rfl, hb1⟩; obtain ⟨cc, cf⟩ := bcell hb1; (first | have hcur := cur_step1 hcur hb1 | have hcur := cur_step0 hb1); have z1 : wr.heap.size < w1.heap.size := (by have q := hb1.size; (try simp at q); omega); have z2 : w.heap.size < w1.heap.size := (by omega); have z3 : wo.heap.size < w1.heap.size := (by omega))
                            go_ret2
                            exact ⟨by rw [HALL.out]; rfl, (HK6.out.to hcur).1⟩
                          · have hcl : closeL y ⟨⟨pr, hn, pa⟩, pd, pg⟩ ⟨⟨qr, qh, qa⟩, qd, qg⟩ = false := by unfold closeL; simp only [HE.out, HF.out]; simp <;> omega
                            have hany2 : (l.take (j + 1)).any (closeL y ⟨⟨pr, hn, pa⟩, pd, pg⟩) = false := any_miss HQ.out HANY.out hcl
                            have HAN := Lib.hid hany2
                            clear hcl hany2
                            go_wp2_with (go_at_call 31; refine (plays_r' _ _ _ _ _).mono ?_; rintro e w1 ⟨rfl, hb1⟩; obtain ⟨cc, cf⟩ := bcell hb1; (first | have hcur := cur_step1 hcur hb1 | have hcur := cur_step0 hb1); have z1 : wr.heap.size < w1.heap.size := (by have q := hb1.size; (try simp at q); omega); have z2 : w.heap.size < w1.heap.size := (by omega); have z3 : wo.heap.size < w1.heap.size := (by omega))
                            go_roundw
                            case rel => exact ClI.next HB6.out hcur hjk HAN.out
                            case measure => simp [intOf]; omega
                          · have hcl : closeL y ⟨⟨pr, hn, pa⟩, pd, pg⟩ ⟨⟨qr, qh, qa⟩, qd, qg⟩ = false := by unfold closeL; simp only [HE.out, HF.out]; simp <;> omega
                            have hany2 : (l.take (j + 1)).any (closeL y ⟨⟨pr, hn, pa⟩, pd, pg⟩) = false := any_miss HQ.out HANY.out hcl
                            have HAN := Lib.hid hany2
                            clear hcl hany2
                            go_wp2_with (go_at_call 31; refine (plays_r' _ _ _ _ _).mono ?_; rintro e w1 ⟨rfl, hb1⟩; obtain ⟨cc, cf⟩ := bcell hb1; (first | have hcur := cur_step1 hcur hb1 | have hcur := cur_step0 hb1); have z1 : wr.heap.size < w1.heap.size := (by have q := hb1.size; (try simp at q); omega); have z2 : w.heap.size < w1.heap.size := (by omega); have z3 : wo.heap.size < w1.heap.size := (by omega))
                            go_roundw
                            case rel => exact ClI.next HB6.out hcur hjk HAN.out
                            case measure => simp [intOf]; omega
                        · have e6 : playsL ⟨qr, qh, qa⟩ pa = false := by simpa using e6
                          have HF := Lib.hid e6
                          clear hdist
                          have hcl : closeL y ⟨⟨pr, hn, pa⟩, pd, pg⟩ ⟨⟨qr, qh, qa⟩, qd, qg⟩ = false := by unfold closeL; simp only [HE.out, HF.out]; simp 
                          have hany2 : (l.take (j + 1)).any (closeL y ⟨⟨pr, hn, pa⟩, pd, pg⟩) = false := any_miss HQ.out HANY.out hcl
                          have HAN := Lib.hid hany2
                          clear hcl hany2
                          go_wp2_with (go_at_call 31; refine (plays_r' _ _ _ _ _).mono ?_; rintro e w1 ⟨rfl, hb1⟩; obtain ⟨cc, cf⟩ := bcell hb1; (first | have hcur := cur_step1 hcur hb1 | have hcur := cur_step0 hb1); have z1 : wr.heap.size < w1.heap.size := (by have q := hb1.size; (try simp at q); omega); have z2 : w.heap.size < w1.heap.size := (by omega); have z3 : wo.heap.size < w1.heap.size := (by omega))
                          go_roundw
                          case rel => exact ClI.next HB6.out hcur hjk HAN.out
                          case measure => simp [intOf]; omega
                    · have hjk2 : j = k := by omega
                      have hone : chkOne x y gr (l.take k) ⟨⟨pr, hn, pa⟩, pd, pg⟩ = 0 := by
                        have h9 := HANY.out
                        rw [hjk2] at h9
                        unfold chkOne; simp only [HKN.out, HGA.out]; rw [if_neg (by simp [HGG.out]), if_neg HLO.out, HTK.out]; simp only [h9]; rfl
                      have HGO := Lib.hid (chk_go HSIM.out HP.out hone)
                      have K7 := Keep.sub HK6.out (fun c hc => List.mem_append_right _ hc)
                      clear hone K6 hb6 hjk2
                      go_wp2
                      go_roundw
                      case rel => exact ⟨k + 1, hlt, by simp, HGO.out, K7⟩
                      case measure => simp [intOf]; omega
          · have e1 : (pg != gv) = true := by simp [hgg]
            have hone : chkOne x y gr (l.take k) ⟨⟨pr, hn, pa⟩, pd, pg⟩ = 1 := by
              unfold chkOne; simp only [HKN.out, HGA.out]; rw [if_pos (.inr hgg)]
            have HALL := Lib.hid (chk_stop HS.out HSIM.out HP.out hone (by decide))
            have hbe := HK4.out.1
            clear hone hgg
            simp only [e1]
            go_wp2
            go_ret2
            exact ⟨by rw [HALL.out]; rfl, hbe⟩
        · have hkn : knownL ⟨pr, ph, pa⟩ gr.length = false := by simpa using hkn
          have hone : chkOne x y gr (l.take k) ⟨⟨pr, ph, pa⟩, pd, pg⟩ = 1 := by unfold chkOne; rw [if_pos (.inl hkn)]
          have HALL := Lib.hid (chk_stop HS.out HSIM.out HP.out hone (by decide))
          have HKN := Lib.hid hkn
          clear hone
          obtain ⟨CS, hCS⟩ : ∃ CS : List (Nat × Nat × Value), CS = ([(wo.heap.size, 0, .int .i64 pr), (wo.heap.size, 1, .int .i64 ph), (wo.heap.size, 2, .int .i64 pa), (wo.heap.size, 3, .int .i64 pd), (wo.heap.size, 4, .int .i64 pg)] ++ [(w.heap.size, 0, .int .i64 x), (w.heap.size, 1, .int .i64 y), (w.heap.size, 2, .slice G gr.length gc)]) := ⟨_, rfl⟩
          have K3 : Keep w (wo.alloc (.cells #[.int .i64 pr, .int .i64 ph, .int .i64 pa, .int .i64 pd, .int .i64 pg] 39)) CS := by rw [hCS]; exact Keep.more (HK.out.to (cur_new wo _)) (by simp)
          have k0 : ∀ s : Wd w CS, s.w.cell? ⟨wo.heap.size, 0, none⟩ = some (.int .i64 pr) := fun s => s.h.get (by simp [hCS])
          have k1 : ∀ s : Wd w CS, s.w.cell? ⟨wo.heap.size, 1, none⟩ = some (.int .i64 ph) := fun s => s.h.get (by simp [hCS])
          have k2 : ∀ s : Wd w CS, s.w.cell? ⟨wo.heap.size, 2, none⟩ = some (.int .i64 pa) := fun s => s.h.get (by simp [hCS])
          have j0 : ∀ s : Wd w CS, s.w.cell? ⟨w.heap.size, 0, none⟩ = some (.int .i64 x) := fun s => s.h.get (by simp [hCS])
          have j1 : ∀ s : Wd w CS, s.w.cell? ⟨w.heap.size, 1, none⟩ = some (.int .i64 y) := fun s => s.h.get (by simp [hCS])
          have j2 : ∀ s : Wd w CS, s.w.cell? ⟨w.heap.size, 2, none⟩ = some (.slice G gr.length gc) := fun s => s.h.get (by simp [hCS])
          have hex : ∀ s : Wd w CS, ∃ s' : Wd w CS, s.w = s'.w := fun s => ⟨s, rfl⟩
          haveI hne : Nonempty (Wd w CS) := ⟨⟨_, K3⟩⟩
          clear hCS
          go_wp2_with fail
          refine wp_region_wd w CS (by kernel_rfl) (by kernel_rfl) K3.drew ?_
          repeat (go_big_quiet_step ((go_at_call 28; refine (known_rno _ _ _ _ _ _ _ _ _ HKN.out).mono ?_; rintro e w4 ⟨rfl, hb4⟩; exact ⟨rfl, ⟨w4, (Wd.h _).to hb4⟩, rfl⟩)))
          refine wpQuiet_nil ?_
          rintro w4 ⟨s4, hs4⟩
          have K4 : Keep w w4 CS := by rw [hs4]; exact s4.h
          clear hs4 s4
          have hbe := K4.1
          clear k0 k1 k2 j0 j1 j2 hex hne K3 K4
          (try simp only [])
          go_wp2
          go_ret2
          exact ⟨by rw [HALL.out]; rfl, hbe⟩
      · have hkl : k = l.length := by omega
        have hall : chkAll l x y gr = (-1, 0) := by
          unfold chkAll; rw [if_pos HS.out, ← HSIM.out, hkl, List.drop_length]; rfl
        have HALL := Lib.hid hall
        clear hall hkl hsim hK
        go_wp2
        go_ret2
        exact ⟨by rw [HALL.out]; rfl, hbw⟩
  · have e0 : (seasonL l.length x y gr != 0) = true := by simpa using hs
    have hall : chkAll l x y gr = (-1, seasonL l.length x y gr) := by unfold chkAll; rw [if_neg hs]
    have HALL := Lib.hid hall
    clear hs hall
    go_enter Try.func15, Try.ntmps15
    go_wp2_with (go_at_call 27; refine (season_r _ _ _ _ _ _ _ (hg.to (cur_new _ _)) hgl).mono ?_; rintro e w1 ⟨rfl, hb1⟩)
    go_ret2
    exact ⟨by rw [HALL.out]; rfl, cur_step0 hb1⟩
end Go.Proofs.Ythoocjcbpjdjhaa
