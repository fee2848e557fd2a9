/-
  Chapter 54: the team before an entry; the last entry up to a day.
-/
import Derived.Test.YtpninpohligomaaGreatDoorOrd54
set_option linter.unusedSimpArgs false
set_option linter.unusedVariables false
namespace Go.Proofs.YtpninpohligomaaGreatDoor
open Go.RowKit
set_option maxRecDepth 100000
set_option maxHeartbeats 1000000
theorem bef_at {l : List Tr} {p : ByteArray} {k : Nat} {y : Tr} (h : l[k]? = some y) : bef l p (k + 1) = if seq y.p p then y.t else bef l p k := by
  simp [bef, h]
theorem ret_str {a b : ByteArray} (h : a = b) : Ending.returned (.string a) = .returned (.string b) := by rw [h]
def BefR (w : World) (l : List Tr) (p : ByteArray) (i : Nat) (kv : Value) (wr : World) : Prop := ∃ j : Nat, j ≤ i ∧ kv = .int .i64 ((j : Int) - 1) ∧ bef l p j = bef l p i ∧ Below w.heap.size w wr
theorem tr_cells {w : World} {b off k : Nat} {y : Tr} (h : ∀ j u, (trE y)[j]? = some u → w.cell? ⟨b, off + k * 3 + j, none⟩ = some u) : w.cell? ⟨b, off + k * 3, none⟩ = some (.string y.p) ∧ w.cell? ⟨b, off + k * 3 + 1, none⟩ = some (.string y.t) ∧ w.cell? ⟨b, off + k * 3 + 2, none⟩ = some (.int .i64 y.d) :=
  ⟨by simpa using h 0 _ rfl, h 1 _ rfl, h 2 _ rfl⟩
theorem before_p (A : Option Addr) (c : Nat) (l : List Tr) (i : Nat) (z : Tr) (v : ByteArray) (w : World) (hl : l.length ≤ 1000000) (hr : Rd trE 3 w w.heap.size A l) (hi : l[i]? = some z) (hv : bef l z.p i = v) :
    Calls Tryz.prog 65 #[.slice A l.length c, .int .i64 i] w fun e w' => e = .returned (.string v) ∧ Below w.heap.size w w' := by
  have HV := Lib.hid hv
  clear hv
  have hil : i < l.length := (List.getElem?_eq_some_iff.1 hi).1
  have HI := Lib.hid hi
  have HR := Lib.hid hr
  clear hi hr
  go_enter Tryz.func65, Tryz.ntmps65
  go_wp2

  go_loopw [5] (BefR w l z.p i) (fun k _ => (intOf k + 1).toNat)
  case atStart => exact ⟨i, by omega, rfl, rfl, Below.refl _ _⟩
  case round =>
    obtain ⟨j, hj, rfl, hq, hB⟩ := hrel
    have HQ := Lib.hid hq
    have HB := Lib.hid hB
    clear hq hB
    match j, hj with
    | 0, _ =>
      have HE := Lib.hid (show (⟨#[]⟩ : ByteArray) = v by rw [← HV.out, ← HQ.out]; rfl)
      go_wp2
      go_ret
      exact ⟨ret_str HE.out, HB.out⟩
    | k + 1, hj =>
      have e1 : (((k + 1 : Nat) : Int) - 1) = (k : Int) := by omega
      rw [e1]
      obtain ⟨y, hy⟩ : ∃ y, l[k]? = some y := ⟨_, List.getElem?_eq_getElem (by omega)⟩
      obtain ⟨b, off, rfl, hbb, hcl⟩ := HR.out.at_ HB.out hy
      obtain ⟨b2, off2, hA2, _, hcl2⟩ := HR.out.at_ HB.out HI.out
      injection hA2 with hA2
      injection hA2 with h1 h2 _
      subst h1 h2
      obtain ⟨cp, ct, _⟩ := tr_cells hcl
      obtain ⟨cz, _, _⟩ := tr_cells hcl2
      have HA := Lib.hid (bef_at (p := z.p) hy)
      have hbl : b < wr.heap.size := by have := HB.out.size; omega
      clear hcl hcl2 hy
      cases hs : seq y.p z.p
      · have HE := Lib.hid (show bef l z.p k = bef l z.p i by rw [← HQ.out, HA.out, hs]; rfl)
        have es := seq_to y.p z.p
        rw [hs] at es
        have HS := Lib.hid hs
        clear hs
        go_wp2_with fail
        go_quiet (fail)
        go_wp2_with fail
        go_roundw
        case rel => exact ⟨k, by omega, by simp, HE.out, below_drewN HB.out _⟩
        case measure => simp [intOf]
      · have HE := Lib.hid (show y.t = v by rw [← HV.out, ← HQ.out, HA.out, hs]; rfl)
        have es := seq_to y.p z.p
        rw [hs] at es
        have HS := Lib.hid hs
        clear hs
        go_wp2_with fail
        go_quiet (fail)
        go_wp2_with fail
        go_ret
        exact ⟨ret_str HE.out, below_drewN HB.out _⟩
theorem before_r (A : Option Addr) (c : Nat) (l : List Tr) (i : Nat) (z : Tr) (v : ByteArray) (w : World) (hl : l.length ≤ 1000000) (hr : Rd trE 3 w w.heap.size A l) (hi : l[i]? = some z) (hv : bef l z.p i = v) :
    Calls Tryz.prog 70 #[.slice A l.length c, .int .i64 i] w fun e w' => e = .returned (.string v) ∧ Below w.heap.size w w' := by
  have HV := Lib.hid hv
  clear hv
  have hil : i < l.length := (List.getElem?_eq_some_iff.1 hi).1
  have HI := Lib.hid hi
  have HR := Lib.hid hr
  clear hi hr
  go_enter Tryz.func70, Tryz.ntmps70
  go_wp2

  go_loopw [5] (BefR w l z.p i) (fun k _ => (intOf k + 1).toNat)
  case atStart => exact ⟨i, by omega, rfl, rfl, Below.refl _ _⟩
  case round =>
    obtain ⟨j, hj, rfl, hq, hB⟩ := hrel
    have HQ := Lib.hid hq
    have HB := Lib.hid hB
    clear hq hB
    match j, hj with
    | 0, _ =>
      have HE := Lib.hid (show (⟨#[]⟩ : ByteArray) = v by rw [← HV.out, ← HQ.out]; rfl)
      go_wp2
      go_ret
      exact ⟨ret_str HE.out, HB.out⟩
    | k + 1, hj =>
      have e1 : (((k + 1 : Nat) : Int) - 1) = (k : Int) := by omega
      rw [e1]
      obtain ⟨y, hy⟩ : ∃ y, l[k]? = some y := ⟨_, List.getElem?_eq_getElem (by omega)⟩
      obtain ⟨b, off, rfl, hbb, hcl⟩ := HR.out.at_ HB.out hy
      obtain ⟨b2, off2, hA2, _, hcl2⟩ := HR.out.at_ HB.out HI.out
      injection hA2 with hA2
      injection hA2 with h1 h2 _
      subst h1 h2
      obtain ⟨cp, ct, _⟩ := tr_cells hcl
      obtain ⟨cz, _, _⟩ := tr_cells hcl2
      have HA := Lib.hid (bef_at (p := z.p) hy)
      have hbl : b < wr.heap.size := by have := HB.out.size; omega
      clear hcl hcl2 hy
      cases hs : seq y.p z.p
      · have HE := Lib.hid (show bef l z.p k = bef l z.p i by rw [← HQ.out, HA.out, hs]; rfl)
        have es := seq_to y.p z.p
        rw [hs] at es
        have HS := Lib.hid hs
        clear hs
        go_wp2_with fail
        go_quiet (fail)
        go_wp2_with fail
        go_roundw
        case rel => exact ⟨k, by omega, by simp, HE.out, below_drewN HB.out _⟩
        case measure => simp [intOf]
      · have HE := Lib.hid (show y.t = v by rw [← HV.out, ← HQ.out, HA.out, hs]; rfl)
        have es := seq_to y.p z.p
        rw [hs] at es
        have HS := Lib.hid hs
        clear hs
        go_wp2_with fail
        go_quiet (fail)
        go_wp2_with fail
        go_ret
        exact ⟨ret_str HE.out, below_drewN HB.out _⟩
end Go.Proofs.YtpninpohligomaaGreatDoor
