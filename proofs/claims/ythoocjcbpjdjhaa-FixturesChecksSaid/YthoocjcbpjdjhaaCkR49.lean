/-
  Chapter 49: Check of the reference.
-/
import Derived.Test.YthoocjcbpjdjhaaCkF49
import Derived.RegionTactic
import Derived.BigRegion
import Derived.BigQuiet
namespace Go.Proofs.Ythoocjcbpjdjhaa
open Go.RowKit

theorem chk_at {l : List Fx} {n : Int} {d : Bool} {k : Nat} {f : Fx} {v : Int} (hn : 2 ≤ n ∧ n ≤ 20) (h3 : l.length ≤ 400) (ht : fixFrom n d (l.take k) (l.drop k) = fixFrom n d [] l) (hf : l[k]? = some f) (hz : v ≠ 0) (hv : fixL n d (l.take k) f = v) : checkL l n d = v := by
  have h := fix_now (n := n) (d := d) hf
  rw [ht, if_neg (by rw [hv]; exact hz), hv] at h
  rw [chk_err hn h3 (by rw [h]; exact hz), h]
theorem again_v (r h a r' h' a' : Int) (d : Bool) (v : Bool) (w : World) (hv : againL ⟨r, h, a⟩ ⟨r', h', a'⟩ d = v) :
    Calls Try.prog 34 #[.agg #[.int .i64 r, .int .i64 h, .int .i64 a], .agg #[.int .i64 r', .int .i64 h', .int .i64 a'], .bool d] w fun e w' => e = .returned (.bool v) ∧ Below w.heap.size w w' := by
  subst hv; exact again_r ⟨r, h, a⟩ ⟨r', h', a'⟩ d w

set_option maxRecDepth 100000 in
set_option maxHeartbeats 4000000 in
theorem check_r (A : Option Addr) (c : Nat) (l : List Fx) (n : Int) (d : Bool) (w : World) (hl : l.length ≤ 1000) (hlc : l.length ≤ c) (hr0 : Rd fxE 3 w w.heap.size A l) :
    Calls Try.prog 21 #[.slice A l.length c, .int .i64 n, .bool d] w fun e w' => e = .returned (.int .i64 (checkL l n d)) ∧ Below w.heap.size w w' := by
  by_cases h1 : n < 2 ∨ 20 < n
  · have H := Lib.hid (chk_bad (l := l) (d := d) h1)
    by_cases h2 : n < 2
    · clear h1
      go_enter Try.func21, Try.ntmps21
      go_wp2
      go_ret
      exact ⟨ret_int H.out.symm, Below.refl _ _⟩
    · have h3 : 20 < n := by omega
      clear h1
      go_enter Try.func21, Try.ntmps21
      go_wp2
      go_ret
      exact ⟨ret_int H.out.symm, Below.refl _ _⟩
  have hn : 2 ≤ n ∧ n ≤ 20 := by omega
  clear h1
  by_cases h2 : 400 < l.length
  · have H := Lib.hid (chk_long (d := d) hn h2)
    go_enter Try.func21, Try.ntmps21
    go_wp2
    go_ret
    exact ⟨ret_int H.out.symm, Below.refl _ _⟩
  have h3 : l.length ≤ 400 := by omega
  have hm := mul_bd hn
  go_enter Try.func21, Try.ntmps21
  go_wp2
  go_loopw [25] (IdxB w l.length (fun k => fixFrom n d (l.take k) (l.drop k) = fixFrom n d [] l)) (fun i _ => l.length - (intOf i).toNat)
  case atStart => exact IdxB.start rfl
  case round =>
    obtain ⟨k, hk, rfl, ht, hb0⟩ := hrel
    have HT := Lib.hid ht
    clear ht
    obtain ⟨wb, rfl⟩ : ∃ wb : World, wb = wr := ⟨_, rfl⟩
    by_cases hlt : k < l.length
    · obtain ⟨f, hf⟩ : ∃ f, l[k]? = some f := ⟨_, List.getElem?_eq_getElem hlt⟩
      have hr := hr0.to hb0
      obtain ⟨b, off, rfl, hbb, c0, c1, c2⟩ := rdFx hr (Below.refl _ _) hf
      obtain ⟨r, h, a⟩ := f
      simp only [] at c0 c1 c2
      have HP := Lib.hid hf
      clear hf
      obtain ⟨CS, hCS⟩ : ∃ CS : List (Nat × Nat × Value), CS = [(wb.heap.size, 0, .int .i64 r), (wb.heap.size, 1, .int .i64 h), (wb.heap.size, 2, .int .i64 a)] := ⟨_, rfl⟩
      have K3 : Keep wb (wb.alloc (.cells #[.int .i64 r, .int .i64 h, .int .i64 a] 37)) CS := by rw [hCS]; exact Keep.start (cur_new wb _) (by simp)
      have k0 : ∀ s : Wd wb CS, s.w.cell? ⟨wb.heap.size, 0, none⟩ = some (.int .i64 r) := fun s => s.h.get (by simp [hCS])
      have k1 : ∀ s : Wd wb CS, s.w.cell? ⟨wb.heap.size, 1, none⟩ = some (.int .i64 h) := fun s => s.h.get (by simp [hCS])
      have k2 : ∀ s : Wd wb CS, s.w.cell? ⟨wb.heap.size, 2, none⟩ = some (.int .i64 a) := fun s => s.h.get (by simp [hCS])
      have hex : ∀ s : Wd wb CS, ∃ s' : Wd wb CS, s.w = s'.w := fun s => ⟨s, rfl⟩
      haveI hne : Nonempty (Wd wb CS) := ⟨⟨_, K3⟩⟩
      have HCS := Lib.hid hCS
      clear hCS
      by_cases hw : wildL ⟨r, h, a⟩ n d = true
      · have HALL := Lib.hid (chk_at hn h3 HT.out HP.out (by decide) (fix_wild (pre := l.take k) hw))
        have hways : decide (h < 0) = true ∨ (decide (h < 0) = false ∧ decide (n ≤ h) = true) ∨ (decide (h < 0) = false ∧ decide (n ≤ h) = false ∧ decide (a < 0) = true) ∨ (decide (h < 0) = false ∧ decide (n ≤ h) = false ∧ decide (a < 0) = false ∧ decide (n ≤ a) = true) ∨ (decide (h < 0) = false ∧ decide (n ≤ h) = false ∧ decide (a < 0) = false ∧ decide (n ≤ a) = false ∧ decide (r < 0) = true) ∨ (decide (h < 0) = false ∧ decide (n ≤ h) = false ∧ decide (a < 0) = false ∧ decide (n ≤ a) = false ∧ decide (r < 0) = false ∧ decide (roundsN n d ≤ r) = true) := by
          unfold wildL at hw; simp only [decide_eq_true_eq, decide_eq_false_iff_not] at hw ⊢; omega
        clear hw
        rcases hways with g1 | ⟨g1, g2⟩ | ⟨g1, g2, g3⟩ | ⟨g1, g2, g3, g4⟩ | ⟨g1, g2, g3, g4, g5⟩ | ⟨g1, g2, g3, g4, g5, g6⟩
        all_goals
          go_wp2_with fail
          refine wp_region_wd wb CS (by kernel_rfl) (by kernel_rfl) K3.drew ?_
          repeat (go_big_quiet_step ((go_at_call 33; refine (rounds_r _ _ _ (by omega) (by omega)).mono ?_; rintro e w4 ⟨rfl, rfl⟩; exact ⟨rfl, hex _⟩)))
          refine wpQuiet_nil ?_
          rintro w4 ⟨s4, hs4⟩
          have K4 : Keep wb w4 CS := by rw [hs4]; exact s4.h
          clear hs4 s4
          rw [HCS.out] at K4
          clear k0 k1 k2 hex hne K3 HCS
          (try simp only [])
          have hbe := K4.1
          clear K4
          go_wp2
          go_ret
          exact ⟨ret_int HALL.out.symm, cur_step1 hb0 (hbe)⟩
      have hw : wildL ⟨r, h, a⟩ n d = false := by simpa using hw
      have hways : decide (h < 0) = false ∧ decide (n ≤ h) = false ∧ decide (a < 0) = false ∧ decide (n ≤ a) = false ∧ decide (r < 0) = false ∧ decide (roundsN n d ≤ r) = false := by
        unfold wildL at hw; simp only [decide_eq_false_iff_not] at hw ⊢; omega
      obtain ⟨g1, g2, g3, g4, g5, g6⟩ := hways
      have HW := Lib.hid hw
      clear hw
      go_wp2_with fail
      refine wp_region_wd wb CS (by kernel_rfl) (by kernel_rfl) K3.drew ?_
      repeat (go_big_quiet_step ((go_at_call 33; refine (rounds_r _ _ _ (by omega) (by omega)).mono ?_; rintro e w4 ⟨rfl, rfl⟩; exact ⟨rfl, hex _⟩)))
      refine wpQuiet_nil ?_
      rintro w4 ⟨s4, hs4⟩
      have K4 : Keep wb w4 CS := by rw [hs4]; exact s4.h
      clear hs4 s4
      rw [HCS.out] at K4
      clear k0 k1 k2 hex hne K3 HCS
      (try simp only [])
      have HK4 := Lib.hid K4
      have q0 := K4.get (b := wb.heap.size) (o := 0) (v := .int .i64 r) (by simp)
      have q1 := K4.get (b := wb.heap.size) (o := 1) (v := .int .i64 h) (by simp)
      have q2 := K4.get (b := wb.heap.size) (o := 2) (v := .int .i64 a) (by simp)
      have y0 := K4.lt (b := wb.heap.size) (o := 0) (v := .int .i64 r) (by simp)
      have hbe := K4.1
      clear K4 g1 g2 g3 g4 g5 g6
      by_cases hs : h = a
      · have HALL := Lib.hid (chk_at hn h3 HT.out HP.out (by decide) (fix_same (pre := l.take k) HW.out hs))
        have e1 : (h == a) = true := by simpa using hs
        clear hs
        go_wp2
        go_ret
        exact ⟨ret_int HALL.out.symm, cur_step1 hb0 (hbe)⟩
      have e1 : (h == a) = false := by simpa using hs
      have HS := Lib.hid hs
      clear hs
      have hlate : (k = 0 ∧ lateL (l.take k) ⟨r, h, a⟩ = false) ∨ ∃ k' p, k = k' + 1 ∧ l[k']? = some p ∧ lateL (l.take k) ⟨r, h, a⟩ = decide (r < p.r) := by
        cases k with
        | zero => exact .inl ⟨rfl, late_zero⟩
        | succ k' =>
          obtain ⟨p, hp⟩ : ∃ p, l[k']? = some p := ⟨_, List.getElem?_eq_getElem (by omega)⟩
          exact .inr ⟨k', p, rfl, hp, late_at hp⟩
      have hfall : ∀ w5 : World, Below w4.heap.size w4 w5 → lateL (l.take k) ⟨r, h, a⟩ = false → True := fun _ _ _ => trivial
      rcases hlate with ⟨hk0, hla⟩ | ⟨k', p, hk0, hp, hla⟩
      · have HLA := Lib.hid hla
        have hk1 : decide ((0 : Int) < k) = false := by simp; omega
        have hk3 : decide (0 < k) = false := by simp; omega
        clear hla hk0
        go_wp2_with fail
        go_quiet (fail)
        have K5 := HK4.out.to (cur_drew w4 nq)
        have HK5 := Lib.hid K5
        clear K5 q0 q1 q2 y0 hbe
        go_wp2
        go_loopw [88] (AnyI (w4.drewN nq) k l (clashL ⟨r, h, a⟩)) (fun i _ => k - (intOf i).toNat)
        case atStart => exact ⟨0, Nat.zero_le _, rfl, rfl, Below.refl _ _⟩
        case round =>
          obtain ⟨j, hj, rfl, hany, hb6⟩ := hrel
          have HANY := Lib.hid hany
          have K6 := HK5.out.to hb6
          have g0 := K6.get (b := wb.heap.size) (o := 0) (v := .int .i64 r) (by simp)
          have g1 := K6.get (b := wb.heap.size) (o := 1) (v := .int .i64 h) (by simp)
          have g2 := K6.get (b := wb.heap.size) (o := 2) (v := .int .i64 a) (by simp)
          have y1 := K6.lt (b := wb.heap.size) (o := 0) (v := .int .i64 r) (by simp)
          have HK6 := Lib.hid K6
          have HB6 := Lib.hid hb6
          clear hany
          by_cases hjk : j < k
          · obtain ⟨q, hq⟩ : ∃ q, l[j]? = some q := ⟨_, List.getElem?_eq_getElem (by omega)⟩
            obtain ⟨b', off', e', _, u0, u1, u2⟩ := rdFx hr K6.1 hq
            injection e' with e'
            injection e' with ee1 ee2 _
            subst ee1 ee2
            obtain ⟨qr, qh, qa⟩ := q
            have HQ := Lib.hid hq
            simp only [] at u0 u1 u2
            clear hq K6 hb6
            have hjl : j < l.length := by omega
            have hcq : clashL ⟨r, h, a⟩ ⟨qr, qh, qa⟩ = (qr == r && (playsL ⟨qr, qh, qa⟩ h || playsL ⟨qr, qh, qa⟩ a)) := rfl
            have HCQ := Lib.hid hcq
            clear hcq
            by_cases e5 : qr = r
            · subst qr
              have HE := Lib.hid (show (r == r) = true by simp)
              by_cases e6 : playsL ⟨r, qh, qa⟩ h = true
              · have HF := Lib.hid e6
                have hcl : (clashL ⟨r, h, a⟩) ⟨r, qh, qa⟩ = true := by rw [HCQ.out, HE.out, HF.out]; rfl
                have hany2 : (l.take k).any (clashL ⟨r, h, a⟩) = true := any_hit (k := j) (x := ⟨r, qh, qa⟩) (by rw [List.getElem?_take, if_pos hjk]; exact HQ.out) hcl
                have HALL := Lib.hid (chk_at hn h3 HT.out HP.out (by decide) (fix_clash HW.out HS.out HLA.out hany2))
                clear hcl hany2
                go_wp2_with (go_at_call 31; refine (plays_w _ _ _ _ ?_ _ ?_).mono ?_; rotate_left 1; (first | exact HF.out | exact HG.out); rintro e w1 ⟨rfl, hb1⟩; obtain ⟨cc, cf⟩ := bcell hb1; (first | have hcur := cur_step1 hcur hb1 | have hcur := cur_step0 hb1); have z1 : wr.heap.size < w1.heap.size := (by have q := hb1.size; (try simp at q); omega); have z2 : wb.heap.size < w1.heap.size := (by omega))
                go_ret
                exact ⟨ret_int HALL.out.symm, cur_step1 hb0 ((HK6.out.to hcur).1)⟩
              · have e6 : playsL ⟨r, qh, qa⟩ h = false := by simpa using e6
                have HF := Lib.hid e6
                by_cases e7 : playsL ⟨r, qh, qa⟩ a = true
                · have HG := Lib.hid e7
                  have hcl : (clashL ⟨r, h, a⟩) ⟨r, qh, qa⟩ = true := by rw [HCQ.out, HE.out, HF.out, HG.out]; rfl
                  have hany2 : (l.take k).any (clashL ⟨r, h, a⟩) = true := any_hit (k := j) (x := ⟨r, qh, qa⟩) (by rw [List.getElem?_take, if_pos hjk]; exact HQ.out) hcl
                  have HALL := Lib.hid (chk_at hn h3 HT.out HP.out (by decide) (fix_clash HW.out HS.out HLA.out hany2))
                  clear hcl hany2
                  go_wp2_with (go_at_call 31; refine (plays_w _ _ _ _ ?_ _ ?_).mono ?_; rotate_left 1; (first | exact HF.out | exact HG.out); rintro e w1 ⟨rfl, hb1⟩; obtain ⟨cc, cf⟩ := bcell hb1; (first | have hcur := cur_step1 hcur hb1 | have hcur := cur_step0 hb1); have z1 : wr.heap.size < w1.heap.size := (by have q := hb1.size; (try simp at q); omega); have z2 : wb.heap.size < w1.heap.size := (by omega))
                  go_ret
                  exact ⟨ret_int HALL.out.symm, cur_step1 hb0 ((HK6.out.to hcur).1)⟩
                · have e7 : playsL ⟨r, qh, qa⟩ a = false := by simpa using e7
                  have HG := Lib.hid e7
                  have hcl : (clashL ⟨r, h, a⟩) ⟨r, qh, qa⟩ = false := by rw [HCQ.out, HE.out, HF.out, HG.out]; rfl
                  have HAN := Lib.hid (any_miss (q := clashL ⟨r, h, a⟩) HQ.out HANY.out hcl)
                  clear hcl
                  go_wp2_with (go_at_call 31; refine (plays_w _ _ _ _ ?_ _ ?_).mono ?_; rotate_left 1; (first | exact HF.out | exact HG.out); rintro e w1 ⟨rfl, hb1⟩; obtain ⟨cc, cf⟩ := bcell hb1; (first | have hcur := cur_step1 hcur hb1 | have hcur := cur_step0 hb1); have z1 : wr.heap.size < w1.heap.size := (by have q := hb1.size; (try simp at q); omega); have z2 : wb.heap.size < w1.heap.size := (by omega))
                  all_goals
                    go_roundw
                    case rel => exact AnyI.next HB6.out hcur hjk HAN.out
                    case measure => simp [intOf]; omega
            · have e5 : (qr == r) = false := by simpa using e5
              have HE := Lib.hid e5
              have hcl : (clashL ⟨r, h, a⟩) ⟨qr, qh, qa⟩ = false := by rw [HCQ.out, HE.out]; rfl
              have HAN := Lib.hid (any_miss (q := clashL ⟨r, h, a⟩) HQ.out HANY.out hcl)
              clear hcl
              go_wp2
              go_roundw
              case rel => exact AnyI.next HB6.out (cur_new _ _) hjk HAN.out
              case measure => simp [intOf]; omega
          · have hjk2 : j = k := by omega
            have HCL := Lib.hid (show (l.take k).any (clashL ⟨r, h, a⟩) = false by rw [← hjk2]; exact HANY.out)
            have HKK := HK6
            clear hjk2 hb6 K6 HANY HB6
            obtain ⟨wo, rfl⟩ : ∃ wo : World, wo = wr := ⟨_, rfl⟩
            go_wp2
            clear HK6 g0 g1 g2 y1 hjk hj
            go_loopw [114] (AnyI wo k l (fun g => againL ⟨r, h, a⟩ g d)) (fun i _ => k - (intOf i).toNat)
            case atStart => exact ⟨0, Nat.zero_le _, rfl, rfl, Below.refl _ _⟩
            case round =>
              obtain ⟨j, hj, rfl, hany, hb6⟩ := hrel
              have HANY := Lib.hid hany
              have K6 := HKK.out.to hb6
              have g0 := K6.get (b := wb.heap.size) (o := 0) (v := .int .i64 r) (by simp)
              have g1 := K6.get (b := wb.heap.size) (o := 1) (v := .int .i64 h) (by simp)
              have g2 := K6.get (b := wb.heap.size) (o := 2) (v := .int .i64 a) (by simp)
              have y1 := K6.lt (b := wb.heap.size) (o := 0) (v := .int .i64 r) (by simp)
              have HK6 := Lib.hid K6
              have HB6 := Lib.hid hb6
              clear hany
              by_cases hjk : j < k
              · obtain ⟨q, hq⟩ : ∃ q, l[j]? = some q := ⟨_, List.getElem?_eq_getElem (by omega)⟩
                obtain ⟨b', off', e', _, u0, u1, u2⟩ := rdFx hr K6.1 hq
                injection e' with e'
                injection e' with ee1 ee2 _
                subst ee1 ee2
                obtain ⟨qr, qh, qa⟩ := q
                have HQ := Lib.hid hq
                simp only [] at u0 u1 u2
                clear hq K6 hb6
                have hjl : j < l.length := by omega
                by_cases e6 : againL ⟨r, h, a⟩ ⟨qr, qh, qa⟩ d = true
                · have HF := Lib.hid e6
                  have hany2 : (l.take k).any (fun g => againL ⟨r, h, a⟩ g d) = true := any_hit (k := j) (x := ⟨qr, qh, qa⟩) (by rw [List.getElem?_take, if_pos hjk]; exact HQ.out) e6
                  have HALL := Lib.hid (chk_at hn h3 HT.out HP.out (by decide) (fix_again HW.out HS.out HLA.out HCL.out hany2))
                  clear hany2 e6
                  go_wp2_with (go_at_call 34; refine (again_v _ _ _ _ _ _ _ _ _ HF.out).mono ?_; rintro e w1 ⟨rfl, hb1⟩; obtain ⟨cc, cf⟩ := bcell hb1; (first | have hcur := cur_step1 hcur hb1 | have hcur := cur_step0 hb1); have z1 : wr.heap.size < w1.heap.size := (by have q := hb1.size; (try simp at q); omega); have z2 : wb.heap.size < w1.heap.size := (by omega))
                  go_ret
                  exact ⟨ret_int HALL.out.symm, cur_step1 hb0 ((HK6.out.to hcur).1)⟩
                · have e6 : againL ⟨r, h, a⟩ ⟨qr, qh, qa⟩ d = false := by simpa using e6
                  have HF := Lib.hid e6
                  have HAN := Lib.hid (any_miss (q := fun g => againL ⟨r, h, a⟩ g d) HQ.out HANY.out e6)
                  clear e6
                  go_wp2_with (go_at_call 34; refine (again_v _ _ _ _ _ _ _ _ _ HF.out).mono ?_; rintro e w1 ⟨rfl, hb1⟩; obtain ⟨cc, cf⟩ := bcell hb1; (first | have hcur := cur_step1 hcur hb1 | have hcur := cur_step0 hb1); have z1 : wr.heap.size < w1.heap.size := (by have q := hb1.size; (try simp at q); omega); have z2 : wb.heap.size < w1.heap.size := (by omega))
                  go_roundw
                  case rel => exact AnyI.next HB6.out hcur hjk HAN.out
                  case measure => simp [intOf]; omega
              · have hjk2 : j = k := by omega
                have HALL := Lib.hid (fix_fine (d := d) HW.out HS.out HLA.out HCL.out (by rw [← hjk2]; exact HANY.out))
                have hbe := HK6.out.1
                clear hjk2 hb6 K6
                go_wp2
                go_roundw
                case rel => exact IdxB.next (cur_step1 hb0 hbe) hlt (by rw [← HT.out, fix_now HP.out, if_pos HALL.out])
                case measure => simp [intOf]; omega
      · obtain ⟨b2, off2, e', _, v0, v1, v2⟩ := rdFx hr hbe hp
        injection e' with e'
        injection e' with ee1 ee2 _
        subst ee1 ee2
        obtain ⟨pr, ph, pa⟩ := p
        simp only [] at v0 v1 v2 hla
        have hk1 : decide ((0 : Int) < k) = true := by simp; omega
        have hk3 : decide (0 < k) = true := by simp; omega
        have hkk : (k : Int) - 1 = (k' : Int) := by omega
        have hk2 : k' < l.length := by omega
        clear hk0 hp
        by_cases hlt2 : r < pr
        · have HALL := Lib.hid (chk_at hn h3 HT.out HP.out (by decide) (fix_late (n := n) (d := d) HW.out HS.out (hla.trans (by simpa using hlt2))))
          clear hla
          go_wp2_with fail
          go_quiet (fail)
          have hbe2 := (HK4.out.to (cur_drew w4 nq)).1
          go_wp2
          go_ret
          exact ⟨ret_int HALL.out.symm, cur_step1 hb0 (hbe2)⟩
        · have HLA := Lib.hid (hla.trans (show decide (r < pr) = false by simpa using hlt2))
          clear hla
          go_wp2_with fail
          go_quiet (fail)
          have K5 := HK4.out.to (cur_drew w4 nq)
          have HK5 := Lib.hid K5
          clear K5 q0 q1 q2 y0 hbe
          go_wp2
          go_loopw [88] (AnyI (w4.drewN nq) k l (clashL ⟨r, h, a⟩)) (fun i _ => k - (intOf i).toNat)
          case atStart => exact ⟨0, Nat.zero_le _, rfl, rfl, Below.refl _ _⟩
          case round =>
            obtain ⟨j, hj, rfl, hany, hb6⟩ := hrel
            have HANY := Lib.hid hany
            have K6 := HK5.out.to hb6
            have g0 := K6.get (b := wb.heap.size) (o := 0) (v := .int .i64 r) (by simp)
            have g1 := K6.get (b := wb.heap.size) (o := 1) (v := .int .i64 h) (by simp)
            have g2 := K6.get (b := wb.heap.size) (o := 2) (v := .int .i64 a) (by simp)
            have y1 := K6.lt (b := wb.heap.size) (o := 0) (v := .int .i64 r) (by simp)
            have HK6 := Lib.hid K6
            have HB6 := Lib.hid hb6
            clear hany
            by_cases hjk : j < k
            · obtain ⟨q, hq⟩ : ∃ q, l[j]? = some q := ⟨_, List.getElem?_eq_getElem (by omega)⟩
              obtain ⟨b', off', e', _, u0, u1, u2⟩ := rdFx hr K6.1 hq
              injection e' with e'
              injection e' with ee1 ee2 _
              subst ee1 ee2
              obtain ⟨qr, qh, qa⟩ := q
              have HQ := Lib.hid hq
              simp only [] at u0 u1 u2
              clear hq K6 hb6
              have hjl : j < l.length := by omega
              have hcq : clashL ⟨r, h, a⟩ ⟨qr, qh, qa⟩ = (qr == r && (playsL ⟨qr, qh, qa⟩ h || playsL ⟨qr, qh, qa⟩ a)) := rfl
              have HCQ := Lib.hid hcq
              clear hcq
              by_cases e5 : qr = r
              · subst qr
                have HE := Lib.hid (show (r == r) = true by simp)
                by_cases e6 : playsL ⟨r, qh, qa⟩ h = true
                · have HF := Lib.hid e6
                  have hcl : (clashL ⟨r, h, a⟩) ⟨r, qh, qa⟩ = true := by rw [HCQ.out, HE.out, HF.out]; rfl
                  have hany2 : (l.take k).any (clashL ⟨r, h, a⟩) = true := any_hit (k := j) (x := ⟨r, qh, qa⟩) (by rw [List.getElem?_take, if_pos hjk]; exact HQ.out) hcl
                  have HALL := Lib.hid (chk_at hn h3 HT.out HP.out (by decide) (fix_clash HW.out HS.out HLA.out hany2))
                  clear hcl hany2
                  go_wp2_with (go_at_call 31; refine (plays_w _ _ _ _ ?_ _ ?_).mono ?_; rotate_left 1; (first | exact HF.out | exact HG.out); rintro e w1 ⟨rfl, hb1⟩; obtain ⟨cc, cf⟩ := bcell hb1; (first | have hcur := cur_step1 hcur hb1 | have hcur := cur_step0 hb1); have z1 : wr.heap.size < w1.heap.size := (by have q := hb1.size; (try simp at q); omega); have z2 : wb.heap.size < w1.heap.size := (by omega))
                  go_ret
                  exact ⟨ret_int HALL.out.symm, cur_step1 hb0 ((HK6.out.to hcur).1)⟩
                · have e6 : playsL ⟨r, qh, qa⟩ h = false := by simpa using e6
                  have HF := Lib.hid e6
                  by_cases e7 : playsL ⟨r, qh, qa⟩ a = true
                  · have HG := Lib.hid e7
                    have hcl : (clashL ⟨r, h, a⟩) ⟨r, qh, qa⟩ = true := by rw [HCQ.out, HE.out, HF.out, HG.out]; rfl
                    have hany2 : (l.take k).any (clashL ⟨r, h, a⟩) = true := any_hit (k := j) (x := ⟨r, qh, qa⟩) (by rw [List.getElem?_take, if_pos hjk]; exact HQ.out) hcl
                    have HALL := Lib.hid (chk_at hn h3 HT.out HP.out (by decide) (fix_clash HW.out HS.out HLA.out hany2))
                    clear hcl hany2
                    go_wp2_with (go_at_call 31; refine (plays_w _ _ _ _ ?_ _ ?_).mono ?_; rotate_left 1; (first | exact HF.out | exact HG.out); rintro e w1 ⟨rfl, hb1⟩; obtain ⟨cc, cf⟩ := bcell hb1; (first | have hcur := cur_step1 hcur hb1 | have hcur := cur_step0 hb1); have z1 : wr.heap.size < w1.heap.size := (by have q := hb1.size; (try simp at q); omega); have z2 : wb.heap.size < w1.heap.size := (by omega))
                    go_ret
                    exact ⟨ret_int HALL.out.symm, cur_step1 hb0 ((HK6.out.to hcur).1)⟩
                  · have e7 : playsL ⟨r, qh, qa⟩ a = false := by simpa using e7
                    have HG := Lib.hid e7
                    have hcl : (clashL ⟨r, h, a⟩) ⟨r, qh, qa⟩ = false := by rw [HCQ.out, HE.out, HF.out, HG.out]; rfl
                    have HAN := Lib.hid (any_miss (q := clashL ⟨r, h, a⟩) HQ.out HANY.out hcl)
                    clear hcl
                    go_wp2_with (go_at_call 31; refine (plays_w _ _ _ _ ?_ _ ?_).mono ?_; rotate_left 1; (first | exact HF.out | exact HG.out); rintro e w1 ⟨rfl, hb1⟩; obtain ⟨cc, cf⟩ := bcell hb1; (first | have hcur := cur_step1 hcur hb1 | have hcur := cur_step0 hb1); have z1 : wr.heap.size < w1.heap.size := (by have q := hb1.size; (try simp at q); omega); have z2 : wb.heap.size < w1.heap.size := (by omega))
                    all_goals
                      go_roundw
                      case rel => exact AnyI.next HB6.out hcur hjk HAN.out
                      case measure => simp [intOf]; omega
              · have e5 : (qr == r) = false := by simpa using e5
                have HE := Lib.hid e5
                have hcl : (clashL ⟨r, h, a⟩) ⟨qr, qh, qa⟩ = false := by rw [HCQ.out, HE.out]; rfl
                have HAN := Lib.hid (any_miss (q := clashL ⟨r, h, a⟩) HQ.out HANY.out hcl)
                clear hcl
                go_wp2
                go_roundw
                case rel => exact AnyI.next HB6.out (cur_new _ _) hjk HAN.out
                case measure => simp [intOf]; omega
            · have hjk2 : j = k := by omega
              have HCL := Lib.hid (show (l.take k).any (clashL ⟨r, h, a⟩) = false by rw [← hjk2]; exact HANY.out)
              have HKK := HK6
              clear hjk2 hb6 K6 HANY HB6
              obtain ⟨wo, rfl⟩ : ∃ wo : World, wo = wr := ⟨_, rfl⟩
              go_wp2
              clear HK6 g0 g1 g2 y1 hjk hj
              go_loopw [114] (AnyI wo k l (fun g => againL ⟨r, h, a⟩ g d)) (fun i _ => k - (intOf i).toNat)
              case atStart => exact ⟨0, Nat.zero_le _, rfl, rfl, Below.refl _ _⟩
              case round =>
                obtain ⟨j, hj, rfl, hany, hb6⟩ := hrel
                have HANY := Lib.hid hany
                have K6 := HKK.out.to hb6
                have g0 := K6.get (b := wb.heap.size) (o := 0) (v := .int .i64 r) (by simp)
                have g1 := K6.get (b := wb.heap.size) (o := 1) (v := .int .i64 h) (by simp)
                have g2 := K6.get (b := wb.heap.size) (o := 2) (v := .int .i64 a) (by simp)
                have y1 := K6.lt (b := wb.heap.size) (o := 0) (v := .int .i64 r) (by simp)
                have HK6 := Lib.hid K6
                have HB6 := Lib.hid hb6
                clear hany
                by_cases hjk : j < k
                · obtain ⟨q, hq⟩ : ∃ q, l[j]? = some q := ⟨_, List.getElem?_eq_getElem (by omega)⟩
                  obtain ⟨b', off', e', _, u0, u1, u2⟩ := rdFx hr K6.1 hq
                  injection e' with e'
                  injection e' with ee1 ee2 _
                  subst ee1 ee2
                  obtain ⟨qr, qh, qa⟩ := q
                  have HQ := Lib.hid hq
                  simp only [] at u0 u1 u2
                  clear hq K6 hb6
                  have hjl : j < l.length := by omega
                  by_cases e6 : againL ⟨r, h, a⟩ ⟨qr, qh, qa⟩ d = true
                  · have HF := Lib.hid e6
                    have hany2 : (l.take k).any (fun g => againL ⟨r, h, a⟩ g d) = true := any_hit (k := j) (x := ⟨qr, qh, qa⟩) (by rw [List.getElem?_take, if_pos hjk]; exact HQ.out) e6
                    have HALL := Lib.hid (chk_at hn h3 HT.out HP.out (by decide) (fix_again HW.out HS.out HLA.out HCL.out hany2))
                    clear hany2 e6
                    go_wp2_with (go_at_call 34; refine (again_v _ _ _ _ _ _ _ _ _ HF.out).mono ?_; rintro e w1 ⟨rfl, hb1⟩; obtain ⟨cc, cf⟩ := bcell hb1; (first | have hcur := cur_step1 hcur hb1 | have hcur := cur_step0 hb1); have z1 : wr.heap.size < w1.heap.size := (by have q := hb1.size; (try simp at q); omega); have z2 : wb.heap.size < w1.heap.size := (by omega))
                    go_ret
                    exact ⟨ret_int HALL.out.symm, cur_step1 hb0 ((HK6.out.to hcur).1)⟩
                  · have e6 : againL ⟨r, h, a⟩ ⟨qr, qh, qa⟩ d = false := by simpa using e6
                    have HF := Lib.hid e6
                    have HAN := Lib.hid (any_miss (q := fun g => againL ⟨r, h, a⟩ g d) HQ.out HANY.out e6)
                    clear e6
                    go_wp2_with (go_at_call 34; refine (again_v _ _ _ _ _ _ _ _ _ HF.out).mono ?_; rintro e w1 ⟨rfl, hb1⟩; obtain ⟨cc, cf⟩ := bcell hb1; (first | have hcur := cur_step1 hcur hb1 | have hcur := cur_step0 hb1); have z1 : wr.heap.size < w1.heap.size := (by have q := hb1.size; (try simp at q); omega); have z2 : wb.heap.size < w1.heap.size := (by omega))
                    go_roundw
                    case rel => exact AnyI.next HB6.out hcur hjk HAN.out
                    case measure => simp [intOf]; omega
                · have hjk2 : j = k := by omega
                  have HALL := Lib.hid (fix_fine (d := d) HW.out HS.out HLA.out HCL.out (by rw [← hjk2]; exact HANY.out))
                  have hbe := HK6.out.1
                  clear hjk2 hb6 K6
                  go_wp2
                  go_roundw
                  case rel => exact IdxB.next (cur_step1 hb0 hbe) hlt (by rw [← HT.out, fix_now HP.out, if_pos HALL.out])
                  case measure => simp [intOf]; omega
    · have hall : fixFrom n d [] l = 0 := by
        rw [← HT.out, show k = l.length by omega, List.drop_length]; rfl
      have HALL := Lib.hid hall
      clear hall HT
      have hq : (n * (n - 1)).tdiv 2 = n * (n - 1) / 2 := Int.tdiv_eq_ediv_of_nonneg hm.1
      have HW0 := Lib.hid (show wantN n false = n * (n - 1) / 2 from hq)
      have HW1 := Lib.hid (show wantN n true = n * (n - 1) / 2 * 2 by show (n * (n - 1)).tdiv 2 * 2 = _; rw [hq])
      clear hq
      cases d
      · by_cases e1 : (l.length : Int) = n * (n - 1) / 2
        · have HE := Lib.hid (chk_fine (d := false) hn h3 HALL.out (by rw [HW0.out]; exact e1))
          have e2 : ((l.length : Int) != n * (n - 1) / 2) = false := by simpa using e1
          clear e1
          go_wp2
          go_ret
          exact ⟨ret_int HE.out.symm, hb0⟩
        · have HE := Lib.hid (chk_sum (d := false) hn h3 HALL.out (by rw [HW0.out]; exact e1))
          have e2 : ((l.length : Int) != n * (n - 1) / 2) = true := by simpa using e1
          clear e1
          go_wp2
          go_ret
          exact ⟨ret_int HE.out.symm, hb0⟩
      · by_cases e1 : (l.length : Int) = n * (n - 1) / 2 * 2
        · have HE := Lib.hid (chk_fine (d := true) hn h3 HALL.out (by rw [HW1.out]; exact e1))
          have e2 : ((l.length : Int) != n * (n - 1) / 2 * 2) = false := by simpa using e1
          clear e1
          go_wp2
          go_ret
          exact ⟨ret_int HE.out.symm, hb0⟩
        · have HE := Lib.hid (chk_sum (d := true) hn h3 HALL.out (by rw [HW1.out]; exact e1))
          have e2 : ((l.length : Int) != n * (n - 1) / 2 * 2) = true := by simpa using e1
          clear e1
          go_wp2
          go_ret
          exact ⟨ret_int HE.out.symm, hb0⟩
end Go.Proofs.Ythoocjcbpjdjhaa
