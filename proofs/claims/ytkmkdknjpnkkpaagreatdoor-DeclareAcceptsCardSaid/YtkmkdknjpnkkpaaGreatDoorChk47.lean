/-
  Chapter 47: the checks of a distribution.
-/
import Derived.Test.YtkmkdknjpnkkpaaGreatDoorLeaf47
import Derived.BigQuiet
set_option linter.unusedSimpArgs false
set_option linter.unusedVariables false
namespace Go.Proofs.YtkmkdknjpnkkpaaGreatDoor
open Go.RowKit
set_option maxRecDepth 100000
set_option maxHeartbeats 1000000
def prevO (d : List Oc) (k : Nat) : Option Oc := if k = 0 then none else d[k - 1]?
def ChkR (d : List Oc) (v : Int) (w : World) (sum i : Value) (wr : World) : Prop := ∃ k : Nat, ∃ s : Int, k ≤ d.length ∧ i = .int .i64 k ∧ sum = .int .i64 s ∧ (0 ≤ s ∧ s ≤ 16 * (k : Int)) ∧ cErr (prevO d k) s (d.drop k) = v ∧ Below w.heap.size w wr
theorem prev_next {d : List Oc} {k : Nat} {z : Oc} (h : d[k]? = some z) : prevO d (k + 1) = some z := by
  unfold prevO
  rw [if_neg (by omega), Nat.add_sub_cancel, h]
theorem chk_p (A : Option Addr) (c : Nat) (d : List Oc) (v : Int) (w : World) (hl : d.length ≤ 1000000) (hr : Rd ocE 3 w w.heap.size A d) (hv : chT d = v) :
    Calls Tryz.prog 31 #[.slice A d.length c] w fun e w' => e = .returned (.int .i64 v) ∧ Below w.heap.size w w' := by
  have HR := Lib.hid hr
  unfold chT at hv
  clear hr
  by_cases h0 : d.length = 0
  · rw [if_pos h0] at hv
    subst hv
    go_enter Tryz.func31, Tryz.ntmps31
    go_wp2_with fail
    go_ret
    exact ⟨rfl, Below.refl _ _⟩
  rw [if_neg h0] at hv
  by_cases h1 : 16 < d.length
  · rw [if_pos h1] at hv
    subst hv
    go_enter Tryz.func31, Tryz.ntmps31
    go_wp2_with fail
    go_ret
    exact ⟨rfl, Below.refl _ _⟩
  rw [if_neg h1] at hv
  have HV := Lib.hid hv
  clear hv
  have e0 : ((d.length : Int) == 0) = false := by rw [beq_eq_false_iff_ne]; omega
  have e1 : decide ((16 : Int) < d.length) = false := by simp; omega
  go_enter Tryz.func31, Tryz.ntmps31
  go_wp2_with fail
  go_loopw [3, 16] (ChkR d v w) (fun _ i _ => d.length - (intOf i).toNat)
  case atStart => exact ⟨0, 0, by omega, rfl, rfl, by omega, HV.out, Below.refl _ _⟩
  case round =>
    obtain ⟨k, s, hk, rfl, rfl, hs, hq, hb⟩ := hrel
    have HQ := Lib.hid hq
    have HB := Lib.hid hb
    clear hq hb
    by_cases hlt : k < d.length
    · obtain ⟨z, hz⟩ : ∃ z, d[k]? = some z := ⟨_, List.getElem?_eq_getElem hlt⟩
      obtain ⟨b, off, rfl, hbb, hcl⟩ := HR.out.at_ HB.out hz
      obtain ⟨c0, c1, c2⟩ := oc_cells hcl
      have HE := Lib.hid (cErr_drop (p := prevO d k) (s := s) hz)
      have HN := Lib.hid (prev_next hz)
      have HZ := Lib.hid hz
      clear hcl hz
      by_cases hbad : badO z = true
      · have HV2 := Lib.hid (show (2 : Int) = v by rw [← HQ.out, HE.out, if_pos hbad])
        have HBAD := Lib.hid (show z.r < 0 ∨ 7 < z.r ∨ z.w < 1 ∨ 16 < z.w by unfold badO at hbad; simp at hbad; omega)
        clear hbad
        go_wp2_with fail
        all_goals first
          | (go_ret; exact ⟨ret_int HV2.out, cur_step1 HB.out (cur_new _ _)⟩)
          | (exfalso; have := HBAD.out; omega)
      · have g : ¬ z.r < 0 ∧ ¬ 7 < z.r ∧ ¬ z.w < 1 ∧ ¬ 16 < z.w := by unfold badO at hbad; simp at hbad; omega
        obtain ⟨g1, g2, g3, g4⟩ := g
        have HE2 := Lib.hid (HE.out.trans (if_neg hbad))
        clear HE hbad
        obtain ⟨wo, rfl⟩ : ∃ wo : World, wo = wr := ⟨_, rfl⟩
        have hbs := HB.out.size
        go_wp2_with fail
        rcases Nat.eq_zero_or_pos k with rfl | hk0
        · have HE3 := Lib.hid (show cErr (prevO d (0 + 1)) (s + z.w) (d.drop (0 + 1)) = v by rw [← HQ.out, HE2.out, HN.out]; rfl)
          go_quiet (fail)
          go_wp2
          go_roundw
          case rel => exact ⟨0 + 1, s + z.w, hlt, by simp, rfl, by omega, HE3.out, cur_step1 HB.out (below_drewN (cur_new _ _) _)⟩
          case measure => simp [intOf]; omega
        · obtain ⟨j, rfl⟩ : ∃ j, k = j + 1 := ⟨k - 1, by omega⟩
          obtain ⟨y, hy⟩ : ∃ y, d[j]? = some y := ⟨_, List.getElem?_eq_getElem (by omega)⟩
          have hpv : prevO d (j + 1) = some y := prev_next hy
          obtain ⟨b2, off2, e2, _, hcy⟩ := HR.out.at_ HB.out hy
          injection e2 with e2
          injection e2 with e21 e22 _
          subst e21 e22
          obtain ⟨y0, y1, y2⟩ := oc_cells hcy
          obtain ⟨CS, hCS⟩ : ∃ CS : List (Nat × Nat × Value), CS = [(wo.heap.size, 0, .int .i64 z.r), (wo.heap.size, 1, .bool z.k), (wo.heap.size, 2, .int .i64 z.w)] := ⟨_, rfl⟩
          have K3 : Keep w (wo.alloc (.cells #[.int .i64 z.r, .bool z.k, .int .i64 z.w] 56)) CS := by rw [hCS]; exact Keep.start (cur_step1 HB.out (cur_new wo _)) (by simp)
          have k0 : ∀ s : Wd w CS, s.w.cell? ⟨wo.heap.size, 0, none⟩ = some (.int .i64 z.r) := fun s => s.h.get (by simp [hCS])
          have k1 : ∀ s : Wd w CS, s.w.cell? ⟨wo.heap.size, 1, none⟩ = some (.bool z.k) := fun s => s.h.get (by simp [hCS])
          have k2 : ∀ s : Wd w CS, s.w.cell? ⟨wo.heap.size, 2, none⟩ = some (.int .i64 z.w) := fun s => s.h.get (by simp [hCS])
          have hold : ∀ (s : Wd w CS) (o : Nat), s.w.cell? ⟨b, o, none⟩ = wo.cell? ⟨b, o, none⟩ := fun s o => (s.h.1.cell (p := ⟨b, o, none⟩) hbb).trans (HB.out.cell (p := ⟨b, o, none⟩) hbb).symm
          have j0 : ∀ s : Wd w CS, s.w.cell? ⟨b, off + j * 3, none⟩ = some (.int .i64 y.r) := fun s => (hold s _).trans y0
          have j1 : ∀ s : Wd w CS, s.w.cell? ⟨b, off + j * 3 + 1, none⟩ = some (.bool y.k) := fun s => (hold s _).trans y1
          have j2 : ∀ s : Wd w CS, s.w.cell? ⟨b, off + j * 3 + 2, none⟩ = some (.int .i64 y.w) := fun s => (hold s _).trans y2
          have hex : ∀ s : Wd w CS, ∃ s' : Wd w CS, s.w = s'.w := fun s => ⟨s, rfl⟩
          haveI hne : Nonempty (Wd w CS) := ⟨⟨_, K3⟩⟩
          have HCS := Lib.hid hCS
          have HPV := Lib.hid hpv
          clear hCS hold hcy hy hpv y0 y1 y2
          refine wp_region_wd w CS (by kernel_rfl) (by kernel_rfl) K3.drew ?_
          repeat (go_big_quiet_step ((go_at_call 48; refine (order_p y z _).mono ?_; rintro e w4 ⟨rfl, hb4⟩; exact ⟨rfl, ⟨w4, (Wd.h _).to hb4⟩, rfl⟩)))
          refine wpQuiet_nil ?_
          rintro w4 ⟨s4, hs4⟩
          have K4 : Keep w w4 CS := by rw [hs4]; exact s4.h
          clear hs4 s4
          rw [HCS.out] at K4
          clear k0 k1 k2 j0 j1 j2 hex hne K3 HCS
          (try simp only [])
          have q2 := K4.get (b := wo.heap.size) (o := 2) (v := .int .i64 z.w) (by simp)
          have HB4 := Lib.hid K4.1
          clear K4
          have hord := ordO_before y z
          cases hbf : before y z
          · have e1 : decide (0 ≤ ordO y z) = true := by rw [hord, hbf]; rfl
            have HV2 := Lib.hid (show (8 : Int) = v by rw [← HQ.out, HE2.out, HPV.out, if_pos (by simp [hbf])])
            clear hord hbf
            (try simp only [e1])
            go_wp2
            go_ret
            exact ⟨ret_int HV2.out, HB4.out⟩
          · have e1 : decide (0 ≤ ordO y z) = false := by rw [hord, hbf]; rfl
            have HE3 := Lib.hid (show cErr (prevO d (j + 1 + 1)) (s + z.w) (d.drop (j + 1 + 1)) = v by rw [← HQ.out, HE2.out, HN.out, HPV.out, if_neg (by simp [hbf])])
            clear hord hbf
            (try simp only [e1])
            go_wp2
            go_roundw
            case rel => exact ⟨j + 1 + 1, s + z.w, hlt, by simp, rfl, by omega, HE3.out, HB4.out⟩
            case measure => simp [intOf]; omega
    · have HV2 := Lib.hid (show (if s ≠ 16 then (12 : Int) else 0) = v by rw [← HQ.out, cErr_end (by omega)])
      by_cases hs16 : s = 16
      all_goals
        have HV3 := Lib.hid HV2.out
        go_wp2_with fail
        go_ret
        exact ⟨ret_int (by rw [← HV3.out]; simp [hs16]), HB.out⟩
end Go.Proofs.YtkmkdknjpnkkpaaGreatDoor
