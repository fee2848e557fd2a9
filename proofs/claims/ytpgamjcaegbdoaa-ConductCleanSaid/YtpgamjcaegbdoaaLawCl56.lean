/-
  Chapter 56: the law ConductClean: the walk.
-/
import Derived.Test.YtpgamjcaegbdoaaSusQ56
import Derived.Test.YtpgamjcaegbdoaaPlainB56
namespace Go.Proofs.Ytpgamjcaegbdoaa
open Go.RowKit
set_option maxRecDepth 100000
set_option maxHeartbeats 1000000
def ClR (w : World) (l : List Of) (p : ByteArray) (mo fi i : Value) (wr : World) : Prop := ∃ (L R : List Of), l = L ++ R ∧ i = .int .i64 L.length ∧ mo = .int .i64 (mostL l p L) ∧ fi = .int .i64 (firstO p L) ∧ Below w.heap.size w wr
def ClI (w : World) (n : Nat) (i : Value) (wr : World) : Prop := ∃ k : Nat, k ≤ n ∧ i = .int .i64 k ∧ Below w.heap.size w wr
theorem pts_any (l : List Of) (p : ByteArray) (hok : ∀ z ∈ l, okO z) (hl : l.length ≤ 16) (d : Int) : 0 ≤ ptsL p d l ∧ ptsL p d l ≤ 16000 := by
  have h := pts_rng (p := p) (d := d) (l := l) fun z hz => (hok z hz).2.2.2
  omega
theorem law_clean (A M : Option Addr) (c mc : Nat) (l : List Of) (p : ByteArray) (ms : List Int) (w : World) (hl : l.length ≤ 9223372036854775807) (hc : l.length ≤ c) (hml : ms.length ≤ 9223372036854775807) (hmc : ms.length ≤ mc) (hr : Rd ofE 4 w w.heap.size A l) (hm : Rd inE 1 w w.heap.size M ms) (hsz : ∀ z ∈ l, z.p.size ≤ 9223372036854775807) :
    Calls Try.prog 5 #[.slice A l.length c, .string p, .slice M ms.length mc] w fun e w' => e = .returned (.bool true) ∧ Below w.heap.size w w' := by
  have HR := Lib.hid (hr.pre 16)
  have HMR := Lib.hid (hm.pre 20)
  obtain ⟨l', hl'⟩ : ∃ l', l' = l.take 16 := ⟨_, rfl⟩
  obtain ⟨m', hm'⟩ : ∃ m', m' = ms.take 20 := ⟨_, rfl⟩
  have hll : l'.length ≤ 16 := by rw [hl', few_len]; omega
  have hllc : l'.length ≤ c := by rw [hl', few_len]; omega
  have hmll : m'.length ≤ 20 := by rw [hm', few_len]; omega
  have HSZ := Lib.hid (show ∀ z ∈ l', z.p.size ≤ 9223372036854775807 from fun z h => hsz z (List.take_subset 16 l (by rw [← hl']; exact h)))
  have e2 : min l.length 16 = l'.length := by rw [hl', few_len]
  have e3 : min ms.length 20 = m'.length := by rw [hm', few_len]
  rw [← hl'] at HR
  rw [← hm'] at HMR
  have HF := Lib.hid (few_f A c l.length)
  rw [e2] at HF
  have HD := Lib.hid (days_f M mc ms.length)
  rw [e3] at HD
  obtain ⟨R, E, hs⟩ : ∃ R E, suspS l' p m' = (R, E) := ⟨_, _, rfl⟩
  have HS := Lib.hid hs
  clear hr hm hsz hl' hm' e2 e3
  by_cases hE : E = 0
  · subst hE
    obtain ⟨hck, hR⟩ := susp_ok hs
    have HOK := Lib.hid (ck_pair hck).1
    have HCK := Lib.hid hck
    have HRP := Lib.hid hR
    have HAF := Lib.hid (show ∀ x ∈ R, firstO p l' < x by rw [hR]; exact after_first p m' hck)
    have hRl : R.length ≤ 20 := by have := susp_len hs; omega
    clear hs hck hR
    go_enter Try.func5, Try.ntmps5
    go_wp2_with (first
      | (go_at_call 8; refine (awake_any _).mono ?_; rintro e w1 ⟨rfl, hb1⟩; have HB := Lib.hid hb1; clear hb1)
      | (go_at_call 9; refine (HF.out _ hl hc).mono ?_; rintro e wn ⟨rfl, hbn⟩; replace HB := Lib.hid (cur_step1 HB.out hbn); clear hbn)
      | (go_at_call 14; refine (HD.out _ hml hmc).mono ?_; rintro e wn ⟨rfl, hbn⟩; replace HB := Lib.hid (cur_step1 HB.out hbn); clear hbn)
      | (go_at_call 15; refine (susp_q A M c mc l' p m' R 0 _ (by omega) hllc (by omega) (HR.out.to HB.out) (HMR.out.to HB.out) HSZ.out HS.out).mono ?_; rintro e w3 ⟨A2, c2, rfl, hrd, hb3⟩; have HRA := Lib.hid hrd; have HB3 := Lib.hid (cur_step1 HB.out hb3); clear hrd hb3))
    go_loopw [9, 10, 34] (ClR w3 l' p) (fun _ _ i _ => l'.length - (intOf i).toNat)
    case atStart => exact ⟨[], l', rfl, rfl, rfl, rfl, Below.refl _ _⟩
    case round =>
      obtain ⟨L, T, hLT, rfl, rfl, rfl, hB⟩ := hrel
      have HLT := Lib.hid hLT
      have HBr := Lib.hid hB
      have HB4 := Lib.hid (cur_step1 HB3.out hB)
      have hokL : ∀ z ∈ L, okO z := fun z hz => HOK.out z (by rw [hLT]; simp [hz])
      have hdL : ∀ z ∈ L, 0 ≤ z.d ∧ z.d ≤ 1000000 := fun z hz => by have h := (hokL z hz).2.2.1; unfold isDayB at h; simpa using h
      have hmo : 0 ≤ mostL l' p L ∧ mostL l' p L ≤ 16000 := ⟨most_le l' p L 0, most_bd l' p (fun d => (pts_any l' p HOK.out hll d).2) L 0 (by omega)⟩
      have hfi : -1 ≤ firstO p L ∧ firstO p L ≤ 1000000 := ⟨firstO_neg fun z hz => (hdL z hz).1, firstO_le fun z hz => (hdL z hz).2⟩
      have HFS := Lib.hid (show ∀ z, firstO p (L ++ [z]) = if seq z.p p then (if firstO p L < 0 then z.d else firstO p L) else firstO p L from fun z => firstO_snoc fun y hy => (hdL y hy).1)
      have HMS := Lib.hid (mostL_snoc l' p L)
      obtain ⟨mo, hmo2⟩ : ∃ mo, mostL l' p L = mo := ⟨_, rfl⟩
      obtain ⟨fi, hfi2⟩ : ∃ fi, firstO p L = fi := ⟨_, rfl⟩
      have HMO := Lib.hid hmo2
      have HFI := Lib.hid hfi2
      rw [hmo2] at hmo HMS ⊢
      rw [hfi2] at hfi HFS ⊢
      clear hLT hB hokL hdL hmo2 hfi2
      cases T with
      | cons z T' =>
        have hz : l'[L.length]? = some z := by rw [HLT.out]; simp
        have hlt : L.length < l'.length := by rw [HLT.out]; simp
        obtain ⟨b, off, rfl, hbb, hcl⟩ := HR.out.at_ HB4.out hz
        obtain ⟨c0, c1, c2', c3⟩ := of_cells hcl
        have es := seq_to z.p p
        have HLT2 := Lib.hid (show l' = (L ++ [z]) ++ T' by rw [HLT.out]; simp)
        have hzo := HOK.out z (List.mem_of_getElem? hz)
        have hzd : 0 ≤ z.d ∧ z.d ≤ 1000000 := by have h := hzo.2.2.1; unfold isDayB at h; simpa using h
        have HPT := Lib.hid (show pointsS l' p z.d = (ptsL p z.d l', 0) by unfold pointsS; rw [HCK.out, hzo.2.2.1]; rfl)
        have hpa := pts_any l' p HOK.out hll z.d
        obtain ⟨pn, hpn⟩ : ∃ pn, ptsL p z.d l' = pn := ⟨_, rfl⟩
        have HPN := Lib.hid hpn
        rw [hpn] at HPT hpa
        clear hcl hz hzo hpn
        cases hsz : seq z.p p
        · rw [hsz] at es
          have HM2 := Lib.hid (show mostL l' p (L ++ [z]) = mo by rw [HMS.out, hsz]; rfl)
          have HF2 := Lib.hid (show firstO p (L ++ [z]) = fi by rw [HFS.out, hsz]; rfl)
          clear hsz
          go_wp2_with fail
          go_roundw
          case rel => exact ⟨L ++ [z], T', HLT2.out, by simp, by rw [HM2.out], by rw [HF2.out], cur_step1 HBr.out (cur_new _ _)⟩
          case measure => simp [intOf]; omega
        · rw [hsz] at es
          have HM2 := Lib.hid (show mostL l' p (L ++ [z]) = max mo pn by rw [HMS.out, hsz, HPN.out]; rfl)
          have HF2 := Lib.hid (show firstO p (L ++ [z]) = if fi < 0 then z.d else fi by rw [HFS.out, hsz]; rfl)
          clear hsz
          by_cases hf0 : fi < 0
          · have HF3 := Lib.hid (show firstO p (L ++ [z]) = z.d by rw [HF2.out, if_pos hf0])
            rcases Int.le_total mo pn with hmx | hmx
            · have hmax : max mo pn = pn := by omega
              go_wp2_with (go_at_call 10; refine (Points_p _ c l' p z.d pn 0 _ (by omega) hllc (HR.out.to (cur_step1 HB4.out (cur_new _ _))) HSZ.out HPT.out).mono ?_; rintro e w6 ⟨rfl, hb6⟩; obtain ⟨cc6, _⟩ := bcell hb6)
              go_roundw
              case rel => exact ⟨L ++ [z], T', HLT2.out, by simp, by rw [HM2.out, hmax]; first | rfl | (split <;> first | rfl | (congr 1; omega)), by rw [HF3.out], cur_step1 (cur_step1 HBr.out (cur_new _ _)) hb6⟩
              case measure => simp [intOf]; omega
            · have hmax : max mo pn = mo := by omega
              go_wp2_with (go_at_call 10; refine (Points_p _ c l' p z.d pn 0 _ (by omega) hllc (HR.out.to (cur_step1 HB4.out (cur_new _ _))) HSZ.out HPT.out).mono ?_; rintro e w6 ⟨rfl, hb6⟩; obtain ⟨cc6, _⟩ := bcell hb6)
              go_roundw
              case rel => exact ⟨L ++ [z], T', HLT2.out, by simp, by rw [HM2.out, hmax]; first | rfl | (split <;> first | rfl | (congr 1; omega)), by rw [HF3.out], cur_step1 (cur_step1 HBr.out (cur_new _ _)) hb6⟩
              case measure => simp [intOf]; omega
          · have HF3 := Lib.hid (show firstO p (L ++ [z]) = fi by rw [HF2.out, if_neg hf0])
            rcases Int.le_total mo pn with hmx | hmx
            · have hmax : max mo pn = pn := by omega
              go_wp2_with (go_at_call 10; refine (Points_p _ c l' p z.d pn 0 _ (by omega) hllc (HR.out.to (cur_step1 HB4.out (cur_new _ _))) HSZ.out HPT.out).mono ?_; rintro e w6 ⟨rfl, hb6⟩; obtain ⟨cc6, _⟩ := bcell hb6)
              go_roundw
              case rel => exact ⟨L ++ [z], T', HLT2.out, by simp, by rw [HM2.out, hmax]; first | rfl | (split <;> first | rfl | (congr 1; omega)), by rw [HF3.out], cur_step1 (cur_step1 HBr.out (cur_new _ _)) hb6⟩
              case measure => simp [intOf]; omega
            · have hmax : max mo pn = mo := by omega
              go_wp2_with (go_at_call 10; refine (Points_p _ c l' p z.d pn 0 _ (by omega) hllc (HR.out.to (cur_step1 HB4.out (cur_new _ _))) HSZ.out HPT.out).mono ?_; rintro e w6 ⟨rfl, hb6⟩; obtain ⟨cc6, _⟩ := bcell hb6)
              go_roundw
              case rel => exact ⟨L ++ [z], T', HLT2.out, by simp, by rw [HM2.out, hmax]; first | rfl | (split <;> first | rfl | (congr 1; omega)), by rw [HF3.out], cur_step1 (cur_step1 HBr.out (cur_new _ _)) hb6⟩
              case measure => simp [intOf]; omega
      | nil =>
        have hl2 : l' = L := by simpa using HLT.out
        have HL2 := Lib.hid hl2
        have hnl : ¬ L.length < l'.length := by rw [hl2]; omega
        have HFM := Lib.hid (show firstO p l' = fi by rw [hl2]; exact HFI.out)
        have HMM := Lib.hid (show mostL l' p l' = mo by have h := HMO.out; rw [← hl2] at h; exact h)
        clear hl2
        have HRA2 := Lib.hid (HRA.out.to HBr.out)
        have HB5 := Lib.hid HB4.out
        clear HBr HB4
        go_wp2_with fail
        go_loopw [62] (ClI wr R.length) (fun i _ => R.length - (intOf i).toNat)
        case atStart => exact ⟨0, by omega, rfl, Below.refl _ _⟩
        case round =>
          obtain ⟨k, hk, rfl, hB⟩ := hrel
          have HB6 := Lib.hid (cur_step1 HB5.out hB)
          have HBq := Lib.hid hB
          clear hB
          by_cases hlt : k < R.length
          · obtain ⟨x, hx⟩ : ∃ x, R[k]? = some x := ⟨_, List.getElem?_eq_getElem hlt⟩
            obtain ⟨b, off, rfl, hbb, hcl⟩ := HRA2.out.at_ HBq.out hx
            have cx := in_cell hcl
            have hfx := HAF.out x (List.mem_of_getElem? hx)
            rw [HFM.out] at hfx
            have hdx : decide (x ≤ fi) = false := decide_eq_false (by omega)
            clear hcl hx
            go_wp2_with fail
            go_roundw
            case rel => exact ⟨k + 1, hlt, by simp, HBq.out⟩
            case measure => simp [intOf]; omega
          · by_cases h4 : 4 ≤ mo
            · go_wp2_with fail
              go_ret
              exact ⟨rfl, HB6.out⟩
            · have hR0 : R.length = 0 := by
                rw [HRP.out, clean p m' HCK.out (fun z hz hsz2 => by
                  have h := most_ge l' p l' 0 z hz hsz2
                  have h2 := HMM.out
                  unfold mostL at h2
                  omega)]
                rfl
              have HR0 := Lib.hid hR0
              have hR1 : ((R.length : Int) == 0) = true := by simp [hR0]
              clear hR0
              go_wp2_with fail
              go_ret
              exact ⟨ret_bool (by have := HR0.out; simp [this]), HB6.out⟩
  · have hR := susp_err hs hE
    subst hR
    have hEn : (E == 0) = false := by simpa using hE
    clear hs
    go_enter Try.func5, Try.ntmps5
    go_wp2_with (first
      | (go_at_call 8; refine (awake_any _).mono ?_; rintro e w1 ⟨rfl, hb1⟩; have HB := Lib.hid hb1; clear hb1)
      | (go_at_call 9; refine (HF.out _ hl hc).mono ?_; rintro e wn ⟨rfl, hbn⟩; replace HB := Lib.hid (cur_step1 HB.out hbn); clear hbn)
      | (go_at_call 14; refine (HD.out _ hml hmc).mono ?_; rintro e wn ⟨rfl, hbn⟩; replace HB := Lib.hid (cur_step1 HB.out hbn); clear hbn)
      | (go_at_call 15; refine (susp_q A M c mc l' p m' [] E _ (by omega) hllc (by omega) (HR.out.to HB.out) (HMR.out.to HB.out) HSZ.out HS.out).mono ?_; rintro e w3 ⟨A2, c2, rfl, hrd, hb3⟩; have HB3 := Lib.hid (cur_step1 HB.out hb3); clear hrd hb3))
    go_ret
    exact ⟨ret_bool (by simp), HB3.out⟩
end Go.Proofs.Ytpgamjcaegbdoaa
