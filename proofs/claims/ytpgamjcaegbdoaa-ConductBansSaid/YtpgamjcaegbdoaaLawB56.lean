/-
  Chapter 56: slices.Contains, Suspended, the law ConductBans: the walk.
-/
import Derived.Test.YtpgamjcaegbdoaaSusR56
import Derived.Test.YtpgamjcaegbdoaaSusQ56
namespace Go.Proofs.Ytpgamjcaegbdoaa
open Go.RowKit
set_option maxRecDepth 100000
set_option maxHeartbeats 1000000
def IxR (w : World) (l : List Int) (x : Int) (i : Value) (wr : World) : Prop := ∃ k : Nat, k ≤ l.length ∧ i = .int .i64 k ∧ (∀ j y, j < k → l[j]? = some y → y ≠ x) ∧ Below w.heap.size w wr
theorem mem_none {l : List Int} {x : Int} (h : ∀ j y, j < l.length → l[j]? = some y → y ≠ x) : (l.any fun y => y == x) = false := by
  rw [List.any_eq_false]
  intro y hy
  obtain ⟨j, hj, rfl⟩ := List.getElem_of_mem hy
  simpa using h j _ hj (List.getElem?_eq_getElem hj)
theorem mem_some {l : List Int} {k : Nat} {x y : Int} (h : l[k]? = some y) (hx : y = x) : (l.any fun y => y == x) = true := by
  rw [List.any_eq_true]
  exact ⟨y, List.mem_of_getElem? h, by simpa using hx⟩
theorem index_f (A : Option Addr) (c : Nat) (l : List Int) (x : Int) (v : Bool) (w : World) (hl : l.length ≤ 1000000) (hr : Rd inE 1 w w.heap.size A l) (hv : (l.any fun y => y == x) = v) :
    Calls Try.prog 29 #[.slice A l.length c, .int .i64 x] w fun e w' => ∃ r, e = .returned (.int .i64 r) ∧ decide (0 ≤ r) = v ∧ Below w.heap.size w w' := by
  have HV := Lib.hid hv
  have HR := Lib.hid hr
  clear hr hv
  go_enter Try.func29, Try.ntmps29
  go_wp2
  go_loopw [8] (IxR w l x) (fun i _ => l.length - (intOf i).toNat)
  case atStart => exact ⟨0, by simp, rfl, by intro j y h; omega, Below.refl _ _⟩
  case round =>
    obtain ⟨k, hk, rfl, hno, hB⟩ := hrel
    have HNO := Lib.hid hno
    have HB := Lib.hid hB
    clear hno hB
    by_cases hlt2 : k < l.length
    · obtain ⟨y, hy⟩ : ∃ y, l[k]? = some y := ⟨_, List.getElem?_eq_getElem hlt2⟩
      obtain ⟨b, off, rfl, hbb, hcl⟩ := HR.out.at_ HB.out hy
      have c0 := in_cell hcl
      have HY := Lib.hid hy
      clear hcl hy
      cases hxy : (x == y)
      · have HN := Lib.hid (show y ≠ x by intro e; rw [e] at hxy; simp at hxy)
        go_wp2_with fail
        go_roundw
        case rel =>
          refine ⟨k + 1, hlt2, by simp, fun j z hj hz => ?_, HB.out⟩
          by_cases e : j = k
          · subst e
            rw [HY.out] at hz
            injection hz with hz
            rw [← hz]; exact HN.out
          · exact HNO.out j z (by omega) hz
        case measure => simp [intOf]; omega
      · have HE := Lib.hid (show y = x by have := hxy; simp at this; exact this.symm)
        go_wp2_with fail
        go_ret
        exact ⟨_, rfl, by rw [← HV.out, mem_some HY.out HE.out]; simp, HB.out⟩
    · have hke : k = l.length := by omega
      go_wp2
      go_ret
      exact ⟨_, rfl, by rw [← HV.out, mem_none (by rw [← hke]; exact HNO.out)]; simp, HB.out⟩
theorem contains_f (A : Option Addr) (c : Nat) (l : List Int) (x : Int) (v : Bool) (w : World) (hl : l.length ≤ 1000000) (hr : Rd inE 1 w w.heap.size A l) (hv : (l.any fun y => y == x) = v) :
    Calls Try.prog 19 #[.slice A l.length c, .int .i64 x] w fun e w' => e = .returned (.bool v) ∧ Below w.heap.size w w' := by
  have HV := Lib.hid hv
  have HR := Lib.hid hr
  clear hr hv
  go_enter Try.func19, Try.ntmps19
  go_wp2_with (go_at_call 29; refine (index_f A c l x v w hl HR.out HV.out).mono ?_; rintro e w1 ⟨r, rfl, hdec, hb1⟩; have HD := Lib.hid hdec; clear hdec)
  go_ret
  exact ⟨ret_bool HD.out, hb1⟩
theorem suspd_f (A M : Option Addr) (c mc : Nat) (l : List Of) (p : ByteArray) (ms : List Int) (d : Int) (R : List Int) (E : Int) (v : Bool) (w : World) (hl : l.length ≤ 2000) (hlc : l.length ≤ c) (hml : ms.length ≤ 400) (hr : Rd ofE 4 w w.heap.size A l) (hm : Rd inE 1 w w.heap.size M ms) (hsz : ∀ z ∈ l, z.p.size ≤ 9223372036854775807) (hs : suspS l p ms = (R, E)) (hv : (R.any fun y => y == d) = v) :
    Calls Try.prog 18 #[.slice A l.length c, .string p, .slice M ms.length mc, .int .i64 d] w fun e w' => e = .returned (.tuple #[.bool v, .int .i64 E]) ∧ Below w.heap.size w w' := by
  have HR := Lib.hid hr
  have HM := Lib.hid hm
  have HSZ := Lib.hid hsz
  have hRl := susp_len hs
  have HS := Lib.hid hs
  have HV := Lib.hid hv
  clear hr hm hsz hs hv
  go_enter Try.func18, Try.ntmps18
  go_wp2_with (first
    | (go_at_call 15; refine (susp_q A M c mc l p ms R E _ hl hlc hml HR.out HM.out HSZ.out HS.out).mono ?_; rintro e w3 ⟨A2, c2, rfl, hrd, hb3⟩; have HRA := Lib.hid hrd; have HB3 := Lib.hid hb3; clear hrd hb3)
    | (go_at_call 19; refine (contains_f A2 c2 R d v _ (by omega) HRA.out HV.out).mono ?_; rintro e w4 ⟨rfl, hb4⟩))
  go_ret2
  exact ⟨rfl, cur_step1 HB3.out hb4⟩
theorem susp_qr (A M : Option Addr) (c mc : Nat) (l : List Of) (p : ByteArray) (ms : List Int) (R : List Int) (E : Int) (w : World) (hl : l.length ≤ 2000) (hlc : l.length ≤ c) (hml : ms.length ≤ 400) (hr : Rd ofE 4 w w.heap.size A l) (hm : Rd inE 1 w w.heap.size M ms) (hsz : ∀ z ∈ l, z.p.size ≤ 9223372036854775807) (hs : suspS l p ms = (R, E)) :
    Calls Try.prog 17 #[.slice A l.length c, .string p, .slice M ms.length mc] w fun e w' => ∃ A2 c2, e = .returned (.tuple #[.slice A2 R.length c2, .int .i64 E]) ∧ Rd inE 1 w' w'.heap.size A2 R ∧ Below w.heap.size w w' := by
  have h := susp_r A M c mc l p ms w hl hlc hml hr hm hsz
  rw [hs] at h
  exact h
def BaR (w : World) (n : Nat) (i : Value) (wr : World) : Prop := ∃ k : Nat, k ≤ n ∧ i = .int .i64 k ∧ Below w.heap.size w wr
theorem law_bans (A M : Option Addr) (c mc : Nat) (l : List Of) (p : ByteArray) (ms : List Int) (w : World) (hl : l.length ≤ 9223372036854775807) (hc : l.length ≤ c) (hml : ms.length ≤ 9223372036854775807) (hmc : ms.length ≤ mc) (hr : Rd ofE 4 w w.heap.size A l) (hm : Rd inE 1 w w.heap.size M ms) (hsz : ∀ z ∈ l, z.p.size ≤ 9223372036854775807) :
    Calls Try.prog 7 #[.slice A l.length c, .string p, .slice M ms.length mc] w fun e w' => e = .returned (.bool true) ∧ Below w.heap.size w w' := by
  have HR := Lib.hid (hr.pre 16)
  have HMR := Lib.hid (hm.pre 20)
  obtain ⟨l', hl'⟩ : ∃ l', l' = l.take 16 := ⟨_, rfl⟩
  obtain ⟨m', hm'⟩ : ∃ m', m' = ms.take 20 := ⟨_, rfl⟩
  have hll : l'.length ≤ 16 := by rw [hl', few_len]; omega
  have hllc : l'.length ≤ c := by rw [hl', few_len]; omega
  have hmll : m'.length ≤ 20 := by rw [hm', few_len]; omega
  have HSZ := Lib.hid (show ∀ z ∈ l', z.p.size ≤ 9223372036854775807 from fun z h => hsz z (List.take_subset 16 l (by rw [← hl']; exact h)))
  have e2 : min l.length 16 = l'.length := by rw [hl', few_len]
  have e3 : min ms.length 20 = m'.length := by rw [hm', few_len]
  rw [← hl'] at HR
  rw [← hm'] at HMR
  have HF := Lib.hid (few_f A c l.length)
  rw [e2] at HF
  have HD := Lib.hid (days_f M mc ms.length)
  rw [e3] at HD
  obtain ⟨R, E, hs⟩ : ∃ R E, suspS l' p m' = (R, E) := ⟨_, _, rfl⟩
  have HS := Lib.hid hs
  clear hr hm hsz hl' hm' e2 e3
  have hRl : R.length ≤ 20 := by have := susp_len hs; omega
  clear hs
  go_enter Try.func7, Try.ntmps7
  go_wp2_with (first
    | (go_at_call 8; refine (awake_any _).mono ?_; rintro e w1 ⟨rfl, hb1⟩; have HB := Lib.hid hb1; clear hb1)
    | (go_at_call 9; refine (HF.out _ hl hc).mono ?_; rintro e wn ⟨rfl, hbn⟩; replace HB := Lib.hid (cur_step1 HB.out hbn); clear hbn)
    | (go_at_call 14; refine (HD.out _ hml hmc).mono ?_; rintro e wn ⟨rfl, hbn⟩; replace HB := Lib.hid (cur_step1 HB.out hbn); clear hbn)
    | (go_at_call 15; refine (susp_q A M c mc l' p m' R E _ (by omega) hllc (by omega) (HR.out.to HB.out) (HMR.out.to HB.out) HSZ.out HS.out).mono ?_; rintro e w3 ⟨A2, c2, rfl, hrd, hb3⟩; have HRA := Lib.hid hrd; have HB3 := Lib.hid (cur_step1 HB.out hb3); clear hrd hb3)
    | (go_at_call 17; refine (susp_qr A M c mc l' p m' R E _ (by omega) hllc (by omega) (HR.out.to HB3.out) (HMR.out.to HB3.out) HSZ.out HS.out).mono ?_; rintro e w4 ⟨A3, c3, rfl, hrd, hb4⟩; have HRB := Lib.hid hrd; have HRA4 := Lib.hid (HRA.out.to hb4); have HB4 := Lib.hid (cur_step1 HB3.out hb4); clear hrd hb4)
    | (go_at_call 16; refine (eq_f _ _ _ _ R R true _ (by omega) (by omega) HRA4.out HRB.out (by simp)).mono ?_; rintro e w5 ⟨rfl, hb5⟩; have HRA5 := Lib.hid (HRA4.out.to hb5); have HB5 := Lib.hid (cur_step1 HB4.out hb5); clear hb5))
  go_loopw [46] (BaR w5 m'.length) (fun i _ => m'.length - (intOf i).toNat)
  case atStart => exact ⟨0, by omega, rfl, Below.refl _ _⟩
  case round =>
    obtain ⟨k, hk, rfl, hB⟩ := hrel
    have HB6 := Lib.hid (cur_step1 HB5.out hB)
    have HBr := Lib.hid hB
    clear hB
    by_cases hlt : k < m'.length
    · obtain ⟨x, hx⟩ : ∃ x, m'[k]? = some x := ⟨_, List.getElem?_eq_getElem hlt⟩
      obtain ⟨b, off, rfl, hbb, hcl⟩ := HMR.out.at_ HB6.out hx
      have cx := in_cell hcl
      obtain ⟨v, hv⟩ : ∃ v, (R.any fun y => y == x) = v := ⟨_, rfl⟩
      have HV := Lib.hid hv
      clear hcl hx hv
      go_wp2_with (first
        | (go_at_call 18; refine (suspd_f A _ c mc l' p m' x R E v _ (by omega) hllc (by omega) (HR.out.to HB6.out) (HMR.out.to HB6.out) HSZ.out HS.out HV.out).mono ?_; rintro e w7 ⟨rfl, hb7⟩; have HB7 := Lib.hid (cur_step1 HBr.out hb7); clear hb7)
        | (go_at_call 19; refine (contains_f _ _ R x v _ (by omega) (HRA5.out.to HB7.out) HV.out).mono ?_; rintro e w8 ⟨rfl, hb8⟩))
      go_roundw
      case rel => exact ⟨k + 1, hlt, by simp, cur_step1 HB7.out hb8⟩
      case measure => simp [intOf]; omega
    · go_wp2_with fail
      go_ret
      exact ⟨rfl, HB6.out⟩
end Go.Proofs.Ytpgamjcaegbdoaa
