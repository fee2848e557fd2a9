/-
  Chapter 54: the last entry up to a day; Team, Eligible.
-/
import Derived.Test.YtpninpohligomaaGreatDoorBef54
set_option linter.unusedSimpArgs false
set_option linter.unusedVariables false
namespace Go.Proofs.YtpninpohligomaaGreatDoor
open Go.RowKit
set_option maxRecDepth 100000
set_option maxHeartbeats 1000000
theorem lastK_at {l : List Tr} {p : ByteArray} {d : Int} {k : Nat} {y : Tr} (h : l[k]? = some y) : lastK l p d (k + 1) = if seq y.p p && decide (y.d ≤ d) then some k else lastK l p d k := by
  simp [lastK, h]
def LastR (w : World) (l : List Tr) (p : ByteArray) (d : Int) (n : Nat) (kv : Value) (wr : World) : Prop := ∃ j : Nat, j ≤ n ∧ kv = .int .i64 ((j : Int) - 1) ∧ lastK l p d j = lastK l p d n ∧ Below w.heap.size w wr
theorem last_p (A : Option Addr) (c : Nat) (l : List Tr) (p : ByteArray) (d : Int) (v : Int) (w : World) (hl : l.length ≤ 1000000) (hr : Rd trE 3 w w.heap.size A l) (hv : idxI (lastK l p d l.length) = v) :
    Calls Tryz.prog 68 #[.slice A l.length c, .string p, .int .i64 d] w fun e w' => e = .returned (.int .i64 v) ∧ Below w.heap.size w w' := by
  have HV := Lib.hid hv
  have HR := Lib.hid hr
  clear hr hv
  go_enter Tryz.func68, Tryz.ntmps68
  go_wp2
  go_loopw [7] (LastR w l p d l.length) (fun k _ => (intOf k + 1).toNat)
  case atStart => exact ⟨l.length, by omega, rfl, rfl, Below.refl _ _⟩
  case round =>
    obtain ⟨j, hj, rfl, hq, hB⟩ := hrel
    have HQ := Lib.hid hq
    have HB := Lib.hid hB
    clear hq hB
    match j, hj with
    | 0, _ =>
      have HE := Lib.hid (show (-1 : Int) = v by rw [← HV.out, ← HQ.out]; rfl)
      go_wp2
      go_ret
      exact ⟨ret_int HE.out, HB.out⟩
    | k + 1, hj =>
      have e1 : (((k + 1 : Nat) : Int) - 1) = (k : Int) := by omega
      rw [e1]
      obtain ⟨y, hy⟩ : ∃ y, l[k]? = some y := ⟨_, List.getElem?_eq_getElem (by omega)⟩
      obtain ⟨b, off, rfl, hbb, hcl⟩ := HR.out.at_ HB.out hy
      obtain ⟨cp, ct, cd⟩ := tr_cells hcl
      have HA := Lib.hid (lastK_at (p := p) (d := d) hy)
      have hbl : b < wr.heap.size := by have := HB.out.size; omega
      clear hcl hy
      cases hs : seq y.p p
      · have HE := Lib.hid (show lastK l p d k = lastK l p d l.length by rw [← HQ.out, HA.out, hs]; rfl)
        have es := seq_to y.p p
        rw [hs] at es
        clear hs
        go_wp2_with fail
        go_roundw
        case rel => exact ⟨k, by omega, by simp, HE.out, HB.out⟩
        case measure => simp [intOf]
      · have es := seq_to y.p p
        rw [hs] at es
        cases hd : decide (y.d ≤ d)
        · have HE := Lib.hid (show lastK l p d k = lastK l p d l.length by rw [← HQ.out, HA.out, hs, hd]; rfl)
          clear hs
          go_wp2_with fail
          go_roundw
          case rel => exact ⟨k, by omega, by simp, HE.out, HB.out⟩
          case measure => simp [intOf]
        · have HE := Lib.hid (show (k : Int) = v by rw [← HV.out, ← HQ.out, HA.out, hs, hd]; rfl)
          clear hs
          go_wp2_with fail
          go_ret
          exact ⟨ret_int HE.out, HB.out⟩
theorem team_p (A : Option Addr) (c : Nat) (l : List Tr) (p : ByteArray) (d : Int) (v : ByteArray) (w : World) (hl : l.length ≤ 1000000) (hr : Rd trE 3 w w.heap.size A l) (hv : teamB l p d = v) :
    Calls Tryz.prog 40 #[.slice A l.length c, .string p, .int .i64 d] w fun e w' => e = .returned (.string v) ∧ Below w.heap.size w w' := by
  have HR := Lib.hid hr
  cases hk : lastK l p d l.length with
  | none =>
    have HE := Lib.hid (show (⟨#[]⟩ : ByteArray) = v by rw [← hv, teamB, hk]; rfl)
    have HV := Lib.hid (show idxI (lastK l p d l.length) = -1 by rw [hk]; rfl)
    clear hr hv hk
    go_enter Tryz.func40, Tryz.ntmps40
    go_wp2_with (go_at_call 68; refine (last_p _ _ _ _ _ (-1) _ hl HR.out HV.out).mono ?_; rintro e w1 ⟨rfl, hb1⟩)
    go_ret
    exact ⟨ret_str HE.out, hb1⟩
  | some k =>
    obtain ⟨hkl, z, hz, _, _⟩ := lastK_some hk
    have HE := Lib.hid (show z.t = v by rw [← hv, teamB, hk, teamAt_some hz])
    have HV := Lib.hid (show idxI (lastK l p d l.length) = k by rw [hk]; rfl)
    have HZ := Lib.hid hz
    clear hr hv hk hz
    go_enter Tryz.func40, Tryz.ntmps40
    go_wp2_with (go_at_call 68; refine (last_p _ _ _ _ _ (k : Int) _ hl HR.out HV.out).mono ?_; rintro e w1 ⟨rfl, hb1⟩; obtain ⟨b, off, rfl, hbb, hcl⟩ := HR.out.at_ hb1 HZ.out; obtain ⟨cp, ct, cd⟩ := tr_cells hcl; clear hcl)
    go_ret
    exact ⟨ret_str HE.out, hb1⟩
theorem elig_p (A : Option Addr) (c : Nat) (l : List Tr) (p t : ByteArray) (d : Int) (v : Bool) (w : World) (hl : l.length ≤ 1000000) (hr : Rd trE 3 w w.heap.size A l) (hv : eligB l p t d = v) :
    Calls Tryz.prog 41 #[.slice A l.length c, .string p, .string t, .int .i64 d] w fun e w' => e = .returned (.bool v) ∧ Below w.heap.size w w' := by
  have HR := Lib.hid hr
  have et := isE_to t
  cases hk : lastK l p d l.length with
  | none =>
    have HE := Lib.hid (show false = v by rw [← hv, eligB, hk]; rfl)
    have HV := Lib.hid (show idxI (lastK l p d l.length) = -1 by rw [hk]; rfl)
    clear hr hv hk
    cases ht : isE t
    all_goals
      rw [ht] at et
      go_enter Tryz.func41, Tryz.ntmps41
      go_wp2_with (go_at_call 68; refine (last_p _ _ _ _ _ (-1) _ hl HR.out HV.out).mono ?_; rintro e w1 ⟨rfl, hb1⟩)
      go_ret
      exact ⟨ret_bool HE.out, hb1⟩
  | some k =>
    obtain ⟨hkl, z, hz, _, _⟩ := lastK_some hk
    have hv2 : (!isE t && seq z.t t && (isE (bef l z.p k) || decide (7 ≤ IntKind.u64.wrap (IntKind.u64.wrap d - IntKind.u64.wrap z.d)))) = v := by rw [← hv, eligB, hk, eligAt_some hz]
    have HV := Lib.hid (show idxI (lastK l p d l.length) = k by rw [hk]; rfl)
    have HZ := Lib.hid hz
    have es := seq_to z.t t
    clear hr hv hk hz
    cases ht : isE t
    · rw [ht] at et
      cases hs : seq z.t t
      · rw [hs] at es
        have HE := Lib.hid (show false = v by rw [← hv2, ht, hs]; rfl)
        clear hv2 hs ht
        go_enter Tryz.func41, Tryz.ntmps41
        go_wp2_with (go_at_call 68; refine (last_p _ _ _ _ _ (k : Int) _ hl HR.out HV.out).mono ?_; rintro e w1 ⟨rfl, hb1⟩; obtain ⟨b, off, rfl, hbb, hcl⟩ := HR.out.at_ hb1 HZ.out; obtain ⟨cp, ct, cd⟩ := tr_cells hcl; clear hcl)
        go_ret
        exact ⟨ret_bool HE.out, hb1⟩
      · rw [hs] at es
        obtain ⟨u, hu⟩ : ∃ u, bef l z.p k = u := ⟨_, rfl⟩
        have hv3 : (isE u || decide (7 ≤ IntKind.u64.wrap (IntKind.u64.wrap d - IntKind.u64.wrap z.d))) = v := by rw [← hu, ← hv2, ht, hs]; rfl
        have HU := Lib.hid hu
        have HV3 := Lib.hid hv3
        have eu := isE_to u
        clear hu hv3 hv2 hs ht
        cases hue : isE u
        all_goals
          have HUE := Lib.hid hue
          rw [hue] at eu
          clear hue
          go_enter Tryz.func41, Tryz.ntmps41
          go_wp2_with (first
            | (go_at_call 68; refine (last_p _ _ _ _ _ (k : Int) _ hl HR.out HV.out).mono ?_; rintro e w1 ⟨rfl, hb1⟩; obtain ⟨b, off, rfl, hbb, hcl⟩ := HR.out.at_ hb1 HZ.out; obtain ⟨cp, ct, cd⟩ := tr_cells hcl; clear hcl)
            | (go_at_call 65; refine (before_p _ _ _ k z u _ hl (HR.out.to hb1) HZ.out HU.out).mono ?_; rintro e w2 ⟨rfl, hb2⟩; obtain ⟨cc2, cf2⟩ := bcell hb2; have cd2 := (cc2 b (off + k * 3 + 2) (by have := hb1.size; omega)).trans cd))
          all_goals
            go_ret
            exact ⟨ret_bool (by rw [← HV3.out, HUE.out]; simp), cur_step1 hb1 hb2⟩
    · rw [ht] at et
      have HE := Lib.hid (show false = v by rw [← hv2, ht]; rfl)
      clear hv2 ht
      go_enter Tryz.func41, Tryz.ntmps41
      go_wp2_with (go_at_call 68; refine (last_p _ _ _ _ _ (k : Int) _ hl HR.out HV.out).mono ?_; rintro e w1 ⟨rfl, hb1⟩; obtain ⟨b, off, rfl, hbb, hcl⟩ := HR.out.at_ hb1 HZ.out; obtain ⟨cp, ct, cd⟩ := tr_cells hcl; clear hcl)
      go_ret
      exact ⟨ret_bool HE.out, hb1⟩
end Go.Proofs.YtpninpohligomaaGreatDoor
