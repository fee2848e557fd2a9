/-
  Chapter 49: 'fixture' of the program.
-/
import Derived.Test.YthoocjcbpjdjhaaSpecK49
import Derived.RegionTactic
import Derived.BigRegion
import Derived.BigQuiet
namespace Go.Proofs.Ythoocjcbpjdjhaa
open Go.RowKit

set_option maxRecDepth 100000 in
set_option maxHeartbeats 4000000 in
theorem fixture_f (A : Option Addr) (c k : Nat) (l : List Fx) (n : Int) (d : Bool) (f : Fx) (w : World) (hl : l.length ≤ 400) (hlc : l.length ≤ c) (hn : 2 ≤ n ∧ n ≤ 20) (hf : l[k]? = some f) (hr : Rd fxE 3 w w.heap.size A l) :
    Calls Try.prog 32 #[.slice A l.length c, .int .i64 k, .int .i64 n, .bool d] w fun e w' => e = .returned (.int .i64 (fixL n d (l.take k) f)) ∧ Below w.heap.size w w' := by
  obtain ⟨b, off, rfl, hbb, c0, c1, c2⟩ := rdFx hr (Below.refl _ _) hf
  obtain ⟨r, h, a⟩ := f
  have hlt : k < l.length := (List.getElem?_eq_some_iff.1 hf).1
  have hkc : k ≤ c := by omega
  simp only [] at c0 c1 c2
  have HP := Lib.hid hf
  clear hf
  obtain ⟨CS, hCS⟩ : ∃ CS : List (Nat × Nat × Value), CS = [(w.heap.size, 0, .int .i64 r), (w.heap.size, 1, .int .i64 h), (w.heap.size, 2, .int .i64 a)] := ⟨_, rfl⟩
  have K3 : Keep w (w.alloc (.cells #[.int .i64 r, .int .i64 h, .int .i64 a] 37)) CS := by rw [hCS]; exact Keep.start (cur_new w _) (by simp)
  have k0 : ∀ s : Wd w CS, s.w.cell? ⟨w.heap.size, 0, none⟩ = some (.int .i64 r) := fun s => s.h.get (by simp [hCS])
  have k1 : ∀ s : Wd w CS, s.w.cell? ⟨w.heap.size, 1, none⟩ = some (.int .i64 h) := fun s => s.h.get (by simp [hCS])
  have k2 : ∀ s : Wd w CS, s.w.cell? ⟨w.heap.size, 2, none⟩ = some (.int .i64 a) := fun s => s.h.get (by simp [hCS])
  have hex : ∀ s : Wd w CS, ∃ s' : Wd w CS, s.w = s'.w := fun s => ⟨s, rfl⟩
  haveI hne : Nonempty (Wd w CS) := ⟨⟨_, K3⟩⟩
  have HCS := Lib.hid hCS
  clear hCS
  by_cases hw : wildL ⟨r, h, a⟩ n d = true
  · have HALL := Lib.hid (fix_wild (pre := l.take k) hw)
    have hways : decide (h < 0) = true ∨ (decide (h < 0) = false ∧ decide (n ≤ h) = true) ∨ (decide (h < 0) = false ∧ decide (n ≤ h) = false ∧ decide (a < 0) = true) ∨ (decide (h < 0) = false ∧ decide (n ≤ h) = false ∧ decide (a < 0) = false ∧ decide (n ≤ a) = true) ∨ (decide (h < 0) = false ∧ decide (n ≤ h) = false ∧ decide (a < 0) = false ∧ decide (n ≤ a) = false ∧ decide (r < 0) = true) ∨ (decide (h < 0) = false ∧ decide (n ≤ h) = false ∧ decide (a < 0) = false ∧ decide (n ≤ a) = false ∧ decide (r < 0) = false ∧ decide (roundsN n d ≤ r) = true) := by
      unfold wildL at hw; simp only [decide_eq_true_eq, decide_eq_false_iff_not] at hw ⊢; omega
    clear hw
    rcases hways with g1 | ⟨g1, g2⟩ | ⟨g1, g2, g3⟩ | ⟨g1, g2, g3, g4⟩ | ⟨g1, g2, g3, g4, g5⟩ | ⟨g1, g2, g3, g4, g5, g6⟩
    all_goals
      go_enter Try.func32, Try.ntmps32
      go_wp2_with fail
      refine wp_region_wd w CS (by kernel_rfl) (by kernel_rfl) K3.drew ?_
      repeat (go_big_quiet_step ((go_at_call 35; refine (rounds_f _ _ _ (by omega) (by omega)).mono ?_; rintro e w4 ⟨rfl, rfl⟩; exact ⟨rfl, hex _⟩)))
      refine wpQuiet_nil ?_
      rintro w4 ⟨s4, hs4⟩
      have K4 : Keep w w4 CS := by rw [hs4]; exact s4.h
      clear hs4 s4
      rw [HCS.out] at K4
      clear k0 k1 k2 hex hne K3 HCS
      (try simp only [])
      have hbe := K4.1
      clear K4
      go_wp2
      go_ret
      exact ⟨ret_int HALL.out.symm, hbe⟩
  have hw : wildL ⟨r, h, a⟩ n d = false := by simpa using hw
  have hways : decide (h < 0) = false ∧ decide (n ≤ h) = false ∧ decide (a < 0) = false ∧ decide (n ≤ a) = false ∧ decide (r < 0) = false ∧ decide (roundsN n d ≤ r) = false := by
    unfold wildL at hw; simp only [decide_eq_false_iff_not] at hw ⊢; omega
  obtain ⟨g1, g2, g3, g4, g5, g6⟩ := hways
  have HW := Lib.hid hw
  clear hw
  go_enter Try.func32, Try.ntmps32
  go_wp2_with fail
  refine wp_region_wd w CS (by kernel_rfl) (by kernel_rfl) K3.drew ?_
  repeat (go_big_quiet_step ((go_at_call 35; refine (rounds_f _ _ _ (by omega) (by omega)).mono ?_; rintro e w4 ⟨rfl, rfl⟩; exact ⟨rfl, hex _⟩)))
  refine wpQuiet_nil ?_
  rintro w4 ⟨s4, hs4⟩
  have K4 : Keep w w4 CS := by rw [hs4]; exact s4.h
  clear hs4 s4
  rw [HCS.out] at K4
  clear k0 k1 k2 hex hne K3 HCS
  (try simp only [])
  have HK4 := Lib.hid K4
  have q0 := K4.get (b := w.heap.size) (o := 0) (v := .int .i64 r) (by simp)
  have q1 := K4.get (b := w.heap.size) (o := 1) (v := .int .i64 h) (by simp)
  have q2 := K4.get (b := w.heap.size) (o := 2) (v := .int .i64 a) (by simp)
  have y0 := K4.lt (b := w.heap.size) (o := 0) (v := .int .i64 r) (by simp)
  have hbe := K4.1
  clear K4 g1 g2 g3 g4 g5 g6
  by_cases hs : h = a
  · have HALL := Lib.hid (fix_same (pre := l.take k) HW.out hs)
    have e1 : (h == a) = true := by simpa using hs
    clear hs
    go_wp2
    go_ret
    exact ⟨ret_int HALL.out.symm, hbe⟩
  have e1 : (h == a) = false := by simpa using hs
  have HS := Lib.hid hs
  clear hs
  have hlate : (k = 0 ∧ lateL (l.take k) ⟨r, h, a⟩ = false) ∨ ∃ k' p, k = k' + 1 ∧ l[k']? = some p ∧ lateL (l.take k) ⟨r, h, a⟩ = decide (r < p.r) := by
    cases k with
    | zero => exact .inl ⟨rfl, late_zero⟩
    | succ k' =>
      obtain ⟨p, hp⟩ : ∃ p, l[k']? = some p := ⟨_, List.getElem?_eq_getElem (by omega)⟩
      exact .inr ⟨k', p, rfl, hp, late_at hp⟩
  have hfall : ∀ w5 : World, Below w4.heap.size w4 w5 → lateL (l.take k) ⟨r, h, a⟩ = false → True := fun _ _ _ => trivial
  rcases hlate with ⟨hk0, hla⟩ | ⟨k', p, hk0, hp, hla⟩
  · have HLA := Lib.hid hla
    have hk1 : decide ((0 : Int) < k) = false := by simp; omega
    have hk3 : decide (0 < k) = false := by simp; omega
    clear hla hk0
    go_wp2_with fail
    go_quiet (fail)
    have K5 := HK4.out.to (cur_drew w4 nq)
    have HK5 := Lib.hid K5
    clear K5 q0 q1 q2 y0 hbe
    go_wp2
    go_loopw [76] (AnyI (w4.drewN nq) k l (clashL ⟨r, h, a⟩)) (fun i _ => k - (intOf i).toNat)
    case atStart => exact ⟨0, Nat.zero_le _, rfl, rfl, Below.refl _ _⟩
    case round =>
      obtain ⟨j, hj, rfl, hany, hb6⟩ := hrel
      have HANY := Lib.hid hany
      have K6 := HK5.out.to hb6
      have g0 := K6.get (b := w.heap.size) (o := 0) (v := .int .i64 r) (by simp)
      have g1 := K6.get (b := w.heap.size) (o := 1) (v := .int .i64 h) (by simp)
      have g2 := K6.get (b := w.heap.size) (o := 2) (v := .int .i64 a) (by simp)
      have y1 := K6.lt (b := w.heap.size) (o := 0) (v := .int .i64 r) (by simp)
      have HK6 := Lib.hid K6
      have HB6 := Lib.hid hb6
      clear hany
      by_cases hjk : j < k
      · obtain ⟨q, hq⟩ : ∃ q, l[j]? = some q := ⟨_, List.getElem?_eq_getElem (by omega)⟩
        obtain ⟨b', off', e', _, u0, u1, u2⟩ := rdFx hr K6.1 hq
        injection e' with e'
        injection e' with ee1 ee2 _
        subst ee1 ee2
        obtain ⟨qr, qh, qa⟩ := q
        have HQ := Lib.hid hq
        simp only [] at u0 u1 u2
        clear hq K6 hb6
        have hjl : j < l.length := by omega
        have hcq : clashL ⟨r, h, a⟩ ⟨qr, qh, qa⟩ = (qr == r && (playsL ⟨qr, qh, qa⟩ h || playsL ⟨qr, qh, qa⟩ a)) := rfl
        have HCQ := Lib.hid hcq
        clear hcq
        by_cases e5 : qr = r
        · subst qr
          have HE := Lib.hid (show (r == r) = true by simp)
          by_cases e6 : playsL ⟨r, qh, qa⟩ h = true
          · have HF := Lib.hid e6
            have hcl : (clashL ⟨r, h, a⟩) ⟨r, qh, qa⟩ = true := by rw [HCQ.out, HE.out, HF.out]; rfl
            have hany2 : (l.take k).any (clashL ⟨r, h, a⟩) = true := any_hit (k := j) (x := ⟨r, qh, qa⟩) (by rw [List.getElem?_take, if_pos hjk]; exact HQ.out) hcl
            have HALL := Lib.hid (fix_clash HW.out HS.out HLA.out hany2)
            clear hcl hany2
            go_wp2_with (go_at_call 25; refine (plays_v _ _ _ _ ?_ _ ?_).mono ?_; rotate_left 1; (first | exact HF.out | exact HG.out); rintro e w1 ⟨rfl, hb1⟩; obtain ⟨cc, cf⟩ := bcell hb1; (first | have hcur := cur_step1 hcur hb1 | have hcur := cur_step0 hb1); have z1 : wr.heap.size < w1.heap.size := (by have q := hb1.size; (try simp at q); omega); have z2 : w.heap.size < w1.heap.size := (by omega))
            go_ret
            exact ⟨ret_int HALL.out.symm, (HK6.out.to hcur).1⟩
          · have e6 : playsL ⟨r, qh, qa⟩ h = false := by simpa using e6
            have HF := Lib.hid e6
            by_cases e7 : playsL ⟨r, qh, qa⟩ a = true
            · have HG := Lib.hid e7
              have hcl : (clashL ⟨r, h, a⟩) ⟨r, qh, qa⟩ = true := by rw [HCQ.out, HE.out, HF.out, HG.out]; rfl
              have hany2 : (l.take k).any (clashL ⟨r, h, a⟩) = true := any_hit (k := j) (x := ⟨r, qh, qa⟩) (by rw [List.getElem?_take, if_pos hjk]; exact HQ.out) hcl
              have HALL := Lib.hid (fix_clash HW.out HS.out HLA.out hany2)
              clear hcl hany2
              go_wp2_with (go_at_call 25; refine (plays_v _ _ _ _ ?_ _ ?_).mono ?_; rotate_left 1; (first | exact HF.out | exact HG.out); rintro e w1 ⟨rfl, hb1⟩; obtain ⟨cc, cf⟩ := bcell hb1; (first | have hcur := cur_step1 hcur hb1 | have hcur := cur_step0 hb1); have z1 : wr.heap.size < w1.heap.size := (by have q := hb1.size; (try simp at q); omega); have z2 : w.heap.size < w1.heap.size := (by omega))
              go_ret
              exact ⟨ret_int HALL.out.symm, (HK6.out.to hcur).1⟩
            · have e7 : playsL ⟨r, qh, qa⟩ a = false := by simpa using e7
              have HG := Lib.hid e7
              have hcl : (clashL ⟨r, h, a⟩) ⟨r, qh, qa⟩ = false := by rw [HCQ.out, HE.out, HF.out, HG.out]; rfl
              have HAN := Lib.hid (any_miss (q := clashL ⟨r, h, a⟩) HQ.out HANY.out hcl)
              clear hcl
              go_wp2_with (go_at_call 25; refine (plays_v _ _ _ _ ?_ _ ?_).mono ?_; rotate_left 1; (first | exact HF.out | exact HG.out); rintro e w1 ⟨rfl, hb1⟩; obtain ⟨cc, cf⟩ := bcell hb1; (first | have hcur := cur_step1 hcur hb1 | have hcur := cur_step0 hb1); have z1 : wr.heap.size < w1.heap.size := (by have q := hb1.size; (try simp at q); omega); have z2 : w.heap.size < w1.heap.size := (by omega))
              all_goals
                go_roundw
                case rel => exact AnyI.next HB6.out hcur hjk HAN.out
                case measure => simp [intOf]; omega
        · have e5 : (qr == r) = false := by simpa using e5
          have HE := Lib.hid e5
          have hcl : (clashL ⟨r, h, a⟩) ⟨qr, qh, qa⟩ = false := by rw [HCQ.out, HE.out]; rfl
          have HAN := Lib.hid (any_miss (q := clashL ⟨r, h, a⟩) HQ.out HANY.out hcl)
          clear hcl
          go_wp2
          go_roundw
          case rel => exact AnyI.next HB6.out (cur_new _ _) hjk HAN.out
          case measure => simp [intOf]; omega
      · have hjk2 : j = k := by omega
        have HCL := Lib.hid (show (l.take k).any (clashL ⟨r, h, a⟩) = false by rw [← hjk2]; exact HANY.out)
        have HKK := HK6
        clear hjk2 hb6 K6 HANY HB6
        obtain ⟨wo, rfl⟩ : ∃ wo : World, wo = wr := ⟨_, rfl⟩
        go_wp2
        clear HK6 g0 g1 g2 y1 hjk hj
        go_loopw [102] (AnyI wo k l (fun g => againL ⟨r, h, a⟩ g d)) (fun i _ => k - (intOf i).toNat)
        case atStart => exact ⟨0, Nat.zero_le _, rfl, rfl, Below.refl _ _⟩
        case round =>
          obtain ⟨j, hj, rfl, hany, hb6⟩ := hrel
          have HANY := Lib.hid hany
          have K6 := HKK.out.to hb6
          have g0 := K6.get (b := w.heap.size) (o := 0) (v := .int .i64 r) (by simp)
          have g1 := K6.get (b := w.heap.size) (o := 1) (v := .int .i64 h) (by simp)
          have g2 := K6.get (b := w.heap.size) (o := 2) (v := .int .i64 a) (by simp)
          have y1 := K6.lt (b := w.heap.size) (o := 0) (v := .int .i64 r) (by simp)
          have HK6 := Lib.hid K6
          have HB6 := Lib.hid hb6
          clear hany
          by_cases hjk : j < k
          · obtain ⟨q, hq⟩ : ∃ q, l[j]? = some q := ⟨_, List.getElem?_eq_getElem (by omega)⟩
            obtain ⟨b', off', e', _, u0, u1, u2⟩ := rdFx hr K6.1 hq
            injection e' with e'
            injection e' with ee1 ee2 _
            subst ee1 ee2
            obtain ⟨qr, qh, qa⟩ := q
            have HQ := Lib.hid hq
            simp only [] at u0 u1 u2
            clear hq K6 hb6
            have hjl : j < l.length := by omega
            have HAG := Lib.hid (again_ne (f := ⟨r, h, a⟩) (g := ⟨qr, qh, qa⟩) (d := d) HS.out)
            by_cases hx : qh = h ∧ qa = a
            · obtain ⟨x1, x2⟩ := hx
              have x1 : (qh == h) = true := by simpa using x1
              have x2 : (qa == a) = true := by simpa using x2
              have X1 := Lib.hid x1
              have X2 := Lib.hid x2
              have hcl : (fun g => againL ⟨r, h, a⟩ g d) ⟨qr, qh, qa⟩ = true := by show againL _ _ _ = true; rw [HAG.out]; simp only [X1.out, X2.out]; rfl
              have hany2 : (l.take k).any (fun g => againL ⟨r, h, a⟩ g d) = true := any_hit (k := j) (x := ⟨qr, qh, qa⟩) (by rw [List.getElem?_take, if_pos hjk]; exact HQ.out) hcl
              have HALL := Lib.hid (fix_again HW.out HS.out HLA.out HCL.out hany2)
              clear hcl hany2
              go_wp2
              go_ret
              exact ⟨ret_int HALL.out.symm, (HK6.out.to (cur_new _ _)).1⟩
            have hx2 : ((qh == h) = true ∧ (qa == a) = false) ∨ (qh == h) = false := by
              by_cases x1 : qh = h
              · by_cases x2 : qa = a
                · exact absurd ⟨x1, x2⟩ hx
                · exact .inl ⟨by simpa using x1, by simpa using x2⟩
              · exact .inr (by simpa using x1)
            have HX := Lib.hid (show (qh == h && qa == a) = false by rcases hx2 with ⟨x1, x2⟩ | x1 <;> simp [*])
            clear hx
            rcases hx2 with ⟨x1, x2⟩ | x1
            all_goals
              rcases Bool.eq_false_or_eq_true d with hd | hd
              · have HD := Lib.hid hd
                have hnd : (!d) = false := by rw [hd]; rfl
                clear hd
                have hcl : (fun g => againL ⟨r, h, a⟩ g d) ⟨qr, qh, qa⟩ = false := by show againL _ _ _ = false; rw [HAG.out]; simp only [HX.out, HD.out]; rfl
                have HAN := Lib.hid (any_miss (q := fun g => againL ⟨r, h, a⟩ g d) HQ.out HANY.out hcl)
                clear hcl
                go_wp2
                go_roundw
                case rel => exact AnyI.next HB6.out (cur_new _ _) hjk HAN.out
                case measure => simp [intOf]; omega
              · have HD := Lib.hid hd
                have hnd : (!d) = true := by rw [hd]; rfl
                clear hd
                by_cases e6 : playsL ⟨qr, qh, qa⟩ h = true
                · have HF := Lib.hid e6
                  by_cases e7 : playsL ⟨qr, qh, qa⟩ a = true
                  · have HG := Lib.hid e7
                    have hcl : (fun g => againL ⟨r, h, a⟩ g d) ⟨qr, qh, qa⟩ = true := by show againL _ _ _ = true; rw [HAG.out]; simp only [HX.out, HD.out, HF.out, HG.out]; rfl
                    have hany2 : (l.take k).any (fun g => againL ⟨r, h, a⟩ g d) = true := any_hit (k := j) (x := ⟨qr, qh, qa⟩) (by rw [List.getElem?_take, if_pos hjk]; exact HQ.out) hcl
                    have HALL := Lib.hid (fix_again HW.out HS.out HLA.out HCL.out hany2)
                    clear hcl hany2
                    go_wp2_with (go_at_call 25; refine (plays_v _ _ _ _ ?_ _ ?_).mono ?_; rotate_left 1; (first | exact HF.out | exact HG.out); rintro e w1 ⟨rfl, hb1⟩; obtain ⟨cc, cf⟩ := bcell hb1; (first | have hcur := cur_step1 hcur hb1 | have hcur := cur_step0 hb1); have z1 : wr.heap.size < w1.heap.size := (by have q := hb1.size; (try simp at q); omega); have z2 : w.heap.size < w1.heap.size := (by omega))
                    go_ret
                    exact ⟨ret_int HALL.out.symm, (HK6.out.to hcur).1⟩
                  · have e7 : playsL ⟨qr, qh, qa⟩ a = false := by simpa using e7
                    have HG := Lib.hid e7
                    have hcl : (fun g => againL ⟨r, h, a⟩ g d) ⟨qr, qh, qa⟩ = false := by show againL _ _ _ = false; rw [HAG.out]; simp only [HX.out, HD.out, HF.out, HG.out]; rfl
                    have HAN := Lib.hid (any_miss (q := fun g => againL ⟨r, h, a⟩ g d) HQ.out HANY.out hcl)
                    clear hcl
                    go_wp2_with (go_at_call 25; refine (plays_v _ _ _ _ ?_ _ ?_).mono ?_; rotate_left 1; (first | exact HF.out | exact HG.out); rintro e w1 ⟨rfl, hb1⟩; obtain ⟨cc, cf⟩ := bcell hb1; (first | have hcur := cur_step1 hcur hb1 | have hcur := cur_step0 hb1); have z1 : wr.heap.size < w1.heap.size := (by have q := hb1.size; (try simp at q); omega); have z2 : w.heap.size < w1.heap.size := (by omega))
                    all_goals
                      go_roundw
                      case rel => exact AnyI.next HB6.out hcur hjk HAN.out
                      case measure => simp [intOf]; omega
                · have e6 : playsL ⟨qr, qh, qa⟩ h = false := by simpa using e6
                  have HF := Lib.hid e6
                  have hcl : (fun g => againL ⟨r, h, a⟩ g d) ⟨qr, qh, qa⟩ = false := by show againL _ _ _ = false; rw [HAG.out]; simp only [HX.out, HD.out, HF.out]; rfl
                  have HAN := Lib.hid (any_miss (q := fun g => againL ⟨r, h, a⟩ g d) HQ.out HANY.out hcl)
                  clear hcl
                  go_wp2_with (go_at_call 25; refine (plays_v _ _ _ _ ?_ _ ?_).mono ?_; rotate_left 1; (first | exact HF.out | exact HG.out); rintro e w1 ⟨rfl, hb1⟩; obtain ⟨cc, cf⟩ := bcell hb1; (first | have hcur := cur_step1 hcur hb1 | have hcur := cur_step0 hb1); have z1 : wr.heap.size < w1.heap.size := (by have q := hb1.size; (try simp at q); omega); have z2 : w.heap.size < w1.heap.size := (by omega))
                  all_goals
                    go_roundw
                    case rel => exact AnyI.next HB6.out hcur hjk HAN.out
                    case measure => simp [intOf]; omega
          · have hjk2 : j = k := by omega
            have HALL := Lib.hid (fix_fine (d := d) HW.out HS.out HLA.out HCL.out (by rw [← hjk2]; exact HANY.out))
            have hbe := HK6.out.1
            clear hjk2 hb6 K6
            go_wp2
            go_ret
            exact ⟨ret_int HALL.out.symm, hbe⟩
  · obtain ⟨b2, off2, e', _, v0, v1, v2⟩ := rdFx hr hbe hp
    injection e' with e'
    injection e' with ee1 ee2 _
    subst ee1 ee2
    obtain ⟨pr, ph, pa⟩ := p
    simp only [] at v0 v1 v2 hla
    have hk1 : decide ((0 : Int) < k) = true := by simp; omega
    have hk3 : decide (0 < k) = true := by simp; omega
    have hkk : (k : Int) - 1 = (k' : Int) := by omega
    have hk2 : k' < l.length := by omega
    clear hk0 hp
    by_cases hlt2 : r < pr
    · have HALL := Lib.hid (fix_late (n := n) (d := d) HW.out HS.out (hla.trans (by simpa using hlt2)))
      clear hla
      go_wp2_with fail
      go_quiet (fail)
      have hbe2 := (HK4.out.to (cur_drew w4 nq)).1
      go_wp2
      go_ret
      exact ⟨ret_int HALL.out.symm, hbe2⟩
    · have HLA := Lib.hid (hla.trans (show decide (r < pr) = false by simpa using hlt2))
      clear hla
      go_wp2_with fail
      go_quiet (fail)
      have K5 := HK4.out.to (cur_drew w4 nq)
      have HK5 := Lib.hid K5
      clear K5 q0 q1 q2 y0 hbe
      go_wp2
      go_loopw [76] (AnyI (w4.drewN nq) k l (clashL ⟨r, h, a⟩)) (fun i _ => k - (intOf i).toNat)
      case atStart => exact ⟨0, Nat.zero_le _, rfl, rfl, Below.refl _ _⟩
      case round =>
        obtain ⟨j, hj, rfl, hany, hb6⟩ := hrel
        have HANY := Lib.hid hany
        have K6 := HK5.out.to hb6
        have g0 := K6.get (b := w.heap.size) (o := 0) (v := .int .i64 r) (by simp)
        have g1 := K6.get (b := w.heap.size) (o := 1) (v := .int .i64 h) (by simp)
        have g2 := K6.get (b := w.heap.size) (o := 2) (v := .int .i64 a) (by simp)
        have y1 := K6.lt (b := w.heap.size) (o := 0) (v := .int .i64 r) (by simp)
        have HK6 := Lib.hid K6
        have HB6 := Lib.hid hb6
        clear hany
        by_cases hjk : j < k
        · obtain ⟨q, hq⟩ : ∃ q, l[j]? = some q := ⟨_, List.getElem?_eq_getElem (by omega)⟩
          obtain ⟨b', off', e', _, u0, u1, u2⟩ := rdFx hr K6.1 hq
          injection e' with e'
          injection e' with ee1 ee2 _
          subst ee1 ee2
          obtain ⟨qr, qh, qa⟩ := q
          have HQ := Lib.hid hq
          simp only [] at u0 u1 u2
          clear hq K6 hb6
          have hjl : j < l.length := by omega
          have hcq : clashL ⟨r, h, a⟩ ⟨qr, qh, qa⟩ = (qr == r && (playsL ⟨qr, qh, qa⟩ h || playsL ⟨qr, qh, qa⟩ a)) := rfl
          have HCQ := Lib.hid hcq
          clear hcq
          by_cases e5 : qr = r
          · subst qr
            have HE := Lib.hid (show (r == r) = true by simp)
            by_cases e6 : playsL ⟨r, qh, qa⟩ h = true
            · have HF := Lib.hid e6
              have hcl : (clashL ⟨r, h, a⟩) ⟨r, qh, qa⟩ = true := by rw [HCQ.out, HE.out, HF.out]; rfl
              have hany2 : (l.take k).any (clashL ⟨r, h, a⟩) = true := any_hit (k := j) (x := ⟨r, qh, qa⟩) (by rw [List.getElem?_take, if_pos hjk]; exact HQ.out) hcl
              have HALL := Lib.hid (fix_clash HW.out HS.out HLA.out hany2)
              clear hcl hany2
              go_wp2_with (go_at_call 25; refine (plays_v _ _ _ _ ?_ _ ?_).mono ?_; rotate_left 1; (first | exact HF.out | exact HG.out); rintro e w1 ⟨rfl, hb1⟩; obtain ⟨cc, cf⟩ := bcell hb1; (first | have hcur := cur_step1 hcur hb1 | have hcur := cur_step0 hb1); have z1 : wr.heap.size < w1.heap.size := (by have q := hb1.size; (try simp at q); omega); have z2 : w.heap.size < w1.heap.size := (by omega))
              go_ret
              exact ⟨ret_int HALL.out.symm, (HK6.out.to hcur).1⟩
            · have e6 : playsL ⟨r, qh, qa⟩ h = false := by simpa using e6
              have HF := Lib.hid e6
              by_cases e7 : playsL ⟨r, qh, qa⟩ a = true
              · have HG := Lib.hid e7
                have hcl : (clashL ⟨r, h, a⟩) ⟨r, qh, qa⟩ = true := by rw [HCQ.out, HE.out, HF.out, HG.out]; rfl
                have hany2 : (l.take k).any (clashL ⟨r, h, a⟩) = true := any_hit (k := j) (x := ⟨r, qh, qa⟩) (by rw [List.getElem?_take, if_pos hjk]; exact HQ.out) hcl
                have HALL := Lib.hid (fix_clash HW.out HS.out HLA.out hany2)
                clear hcl hany2
                go_wp2_with (go_at_call 25; refine (plays_v _ _ _ _ ?_ _ ?_).mono ?_; rotate_left 1; (first | exact HF.out | exact HG.out); rintro e w1 ⟨rfl, hb1⟩; obtain ⟨cc, cf⟩ := bcell hb1; (first | have hcur := cur_step1 hcur hb1 | have hcur := cur_step0 hb1); have z1 : wr.heap.size < w1.heap.size := (by have q := hb1.size; (try simp at q); omega); have z2 : w.heap.size < w1.heap.size := (by omega))
                go_ret
                exact ⟨ret_int HALL.out.symm, (HK6.out.to hcur).1⟩
              · have e7 : playsL ⟨r, qh, qa⟩ a = false := by simpa using e7
                have HG := Lib.hid e7
                have hcl : (clashL ⟨r, h, a⟩) ⟨r, qh, qa⟩ = false := by rw [HCQ.out, HE.out, HF.out, HG.out]; rfl
                have HAN := Lib.hid (any_miss (q := clashL ⟨r, h, a⟩) HQ.out HANY.out hcl)
                clear hcl
                go_wp2_with (go_at_call 25; refine (plays_v _ _ _ _ ?_ _ ?_).mono ?_; rotate_left 1; (first | exact HF.out | exact HG.out); rintro e w1 ⟨rfl, hb1⟩; obtain ⟨cc, cf⟩ := bcell hb1; (first | have hcur := cur_step1 hcur hb1 | have hcur := cur_step0 hb1); have z1 : wr.heap.size < w1.heap.size := (by have q := hb1.size; (try simp at q); omega); have z2 : w.heap.size < w1.heap.size := (by omega))
                all_goals
                  go_roundw
                  case rel => exact AnyI.next HB6.out hcur hjk HAN.out
                  case measure => simp [intOf]; omega
          · have e5 : (qr == r) = false := by simpa using e5
            have HE := Lib.hid e5
            have hcl : (clashL ⟨r, h, a⟩) ⟨qr, qh, qa⟩ = false := by rw [HCQ.out, HE.out]; rfl
            have HAN := Lib.hid (any_miss (q := clashL ⟨r, h, a⟩) HQ.out HANY.out hcl)
            clear hcl
            go_wp2
            go_roundw
            case rel => exact AnyI.next HB6.out (cur_new _ _) hjk HAN.out
            case measure => simp [intOf]; omega
        · have hjk2 : j = k := by omega
          have HCL := Lib.hid (show (l.take k).any (clashL ⟨r, h, a⟩) = false by rw [← hjk2]; exact HANY.out)
          have HKK := HK6
          clear hjk2 hb6 K6 HANY HB6
          obtain ⟨wo, rfl⟩ : ∃ wo : World, wo = wr := ⟨_, rfl⟩
          go_wp2
          clear HK6 g0 g1 g2 y1 hjk hj
          go_loopw [102] (AnyI wo k l (fun g => againL ⟨r, h, a⟩ g d)) (fun i _ => k - (intOf i).toNat)
          case atStart => exact ⟨0, Nat.zero_le _, rfl, rfl, Below.refl _ _⟩
          case round =>
            obtain ⟨j, hj, rfl, hany, hb6⟩ := hrel
            have HANY := Lib.hid hany
            have K6 := HKK.out.to hb6
            have g0 := K6.get (b := w.heap.size) (o := 0) (v := .int .i64 r) (by simp)
            have g1 := K6.get (b := w.heap.size) (o := 1) (v := .int .i64 h) (by simp)
            have g2 := K6.get (b := w.heap.size) (o := 2) (v := .int .i64 a) (by simp)
            have y1 := K6.lt (b := w.heap.size) (o := 0) (v := .int .i64 r) (by simp)
            have HK6 := Lib.hid K6
            have HB6 := Lib.hid hb6
            clear hany
            by_cases hjk : j < k
            · obtain ⟨q, hq⟩ : ∃ q, l[j]? = some q := ⟨_, List.getElem?_eq_getElem (by omega)⟩
              obtain ⟨b', off', e', _, u0, u1, u2⟩ := rdFx hr K6.1 hq
              injection e' with e'
              injection e' with ee1 ee2 _
              subst ee1 ee2
              obtain ⟨qr, qh, qa⟩ := q
              have HQ := Lib.hid hq
              simp only [] at u0 u1 u2
              clear hq K6 hb6
              have hjl : j < l.length := by omega
              have HAG := Lib.hid (again_ne (f := ⟨r, h, a⟩) (g := ⟨qr, qh, qa⟩) (d := d) HS.out)
              by_cases hx : qh = h ∧ qa = a
              · obtain ⟨x1, x2⟩ := hx
                have x1 : (qh == h) = true := by simpa using x1
                have x2 : (qa == a) = true := by simpa using x2
                have X1 := Lib.hid x1
                have X2 := Lib.hid x2
                have hcl : (fun g => againL ⟨r, h, a⟩ g d) ⟨qr, qh, qa⟩ = true := by show againL _ _ _ = true; rw [HAG.out]; simp only [X1.out, X2.out]; rfl
                have hany2 : (l.take k).any (fun g => againL ⟨r, h, a⟩ g d) = true := any_hit (k := j) (x := ⟨qr, qh, qa⟩) (by rw [List.getElem?_take, if_pos hjk]; exact HQ.out) hcl
                have HALL := Lib.hid (fix_again HW.out HS.out HLA.out HCL.out hany2)
                clear hcl hany2
                go_wp2
                go_ret
                exact ⟨ret_int HALL.out.symm, (HK6.out.to (cur_new _ _)).1⟩
              have hx2 : ((qh == h) = true ∧ (qa == a) = false) ∨ (qh == h) = false := by
                by_cases x1 : qh = h
                · by_cases x2 : qa = a
                  · exact absurd ⟨x1, x2⟩ hx
                  · exact .inl ⟨by simpa using x1, by simpa using x2⟩
                · exact .inr (by simpa using x1)
              have HX := Lib.hid (show (qh == h && qa == a) = false by rcases hx2 with ⟨x1, x2⟩ | x1 <;> simp [*])
              clear hx
              rcases hx2 with ⟨x1, x2⟩ | x1
              all_goals
                rcases Bool.eq_false_or_eq_true d with hd | hd
                · have HD := Lib.hid hd
                  have hnd : (!d) = false := by rw [hd]; rfl
                  clear hd
                  have hcl : (fun g => againL ⟨r, h, a⟩ g d) ⟨qr, qh, qa⟩ = false := by show againL _ _ _ = false; rw [HAG.out]; simp only [HX.out, HD.out]; rfl
                  have HAN := Lib.hid (any_miss (q := fun g => againL ⟨r, h, a⟩ g d) HQ.out HANY.out hcl)
                  clear hcl
                  go_wp2
                  go_roundw
                  case rel => exact AnyI.next HB6.out (cur_new _ _) hjk HAN.out
                  case measure => simp [intOf]; omega
                · have HD := Lib.hid hd
                  have hnd : (!d) = true := by rw [hd]; rfl
                  clear hd
                  by_cases e6 : playsL ⟨qr, qh, qa⟩ h = true
                  · have HF := Lib.hid e6
                    by_cases e7 : playsL ⟨qr, qh, qa⟩ a = true
                    · have HG := Lib.hid e7
                      have hcl : (fun g => againL ⟨r, h, a⟩ g d) ⟨qr, qh, qa⟩ = true := by show againL _ _ _ = true; rw [HAG.out]; simp only [HX.out, HD.out, HF.out, HG.out]; rfl
                      have hany2 : (l.take k).any (fun g => againL ⟨r, h, a⟩ g d) = true := any_hit (k := j) (x := ⟨qr, qh, qa⟩) (by rw [List.getElem?_take, if_pos hjk]; exact HQ.out) hcl
                      have HALL := Lib.hid (fix_again HW.out HS.out HLA.out HCL.out hany2)
                      clear hcl hany2
                      go_wp2_with (go_at_call 25; refine (plays_v _ _ _ _ ?_ _ ?_).mono ?_; rotate_left 1; (first | exact HF.out | exact HG.out); rintro e w1 ⟨rfl, hb1⟩; obtain ⟨cc, cf⟩ := bcell hb1; (first | have hcur := cur_step1 hcur hb1 | have hcur := cur_step0 hb1); have z1 : wr.heap.size < w1.heap.size := (by have q := hb1.size; (try simp at q); omega); have z2 : w.heap.size < w1.heap.size := (by omega))
                      go_ret
                      exact ⟨ret_int HALL.out.symm, (HK6.out.to hcur).1⟩
                    · have e7 : playsL ⟨qr, qh, qa⟩ a = false := by simpa using e7
                      have HG := Lib.hid e7
                      have hcl : (fun g => againL ⟨r, h, a⟩ g d) ⟨qr, qh, qa⟩ = false := by show againL _ _ _ = false; rw [HAG.out]; simp only [HX.out, HD.out, HF.out, HG.out]; rfl
                      have HAN := Lib.hid (any_miss (q := fun g => againL ⟨r, h, a⟩ g d) HQ.out HANY.out hcl)
                      clear hcl
                      go_wp2_with (go_at_call 25; refine (plays_v _ _ _ _ ?_ _ ?_).mono ?_; rotate_left 1; (first | exact HF.out | exact HG.out); rintro e w1 ⟨rfl, hb1⟩; obtain ⟨cc, cf⟩ := bcell hb1; (first | have hcur := cur_step1 hcur hb1 | have hcur := cur_step0 hb1); have z1 : wr.heap.size < w1.heap.size := (by have q := hb1.size; (try simp at q); omega); have z2 : w.heap.size < w1.heap.size := (by omega))
                      all_goals
                        go_roundw
                        case rel => exact AnyI.next HB6.out hcur hjk HAN.out
                        case measure => simp [intOf]; omega
                  · have e6 : playsL ⟨qr, qh, qa⟩ h = false := by simpa using e6
                    have HF := Lib.hid e6
                    have hcl : (fun g => againL ⟨r, h, a⟩ g d) ⟨qr, qh, qa⟩ = false := by show againL _ _ _ = false; rw [HAG.out]; simp only [HX.out, HD.out, HF.out]; rfl
                    have HAN := Lib.hid (any_miss (q := fun g => againL ⟨r, h, a⟩ g d) HQ.out HANY.out hcl)
                    clear hcl
                    go_wp2_with (go_at_call 25; refine (plays_v _ _ _ _ ?_ _ ?_).mono ?_; rotate_left 1; (first | exact HF.out | exact HG.out); rintro e w1 ⟨rfl, hb1⟩; obtain ⟨cc, cf⟩ := bcell hb1; (first | have hcur := cur_step1 hcur hb1 | have hcur := cur_step0 hb1); have z1 : wr.heap.size < w1.heap.size := (by have q := hb1.size; (try simp at q); omega); have z2 : w.heap.size < w1.heap.size := (by omega))
                    all_goals
                      go_roundw
                      case rel => exact AnyI.next HB6.out hcur hjk HAN.out
                      case measure => simp [intOf]; omega
            · have hjk2 : j = k := by omega
              have HALL := Lib.hid (fix_fine (d := d) HW.out HS.out HLA.out HCL.out (by rw [← hjk2]; exact HANY.out))
              have hbe := HK6.out.1
              clear hjk2 hb6 K6
              go_wp2
              go_ret
              exact ⟨ret_int HALL.out.symm, hbe⟩
end Go.Proofs.Ythoocjcbpjdjhaa
