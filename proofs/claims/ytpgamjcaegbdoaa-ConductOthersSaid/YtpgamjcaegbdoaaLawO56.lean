/-
  Chapter 56: the law ConductOthers: the walk.
-/
import Derived.Test.YtpgamjcaegbdoaaSusQ56
namespace Go.Proofs.Ytpgamjcaegbdoaa
open Go.RowKit
set_option maxRecDepth 100000
set_option maxHeartbeats 1000000
def OwR (w : World) (l : List Of) (p : ByteArray) (o i : Value) (wr : World) : Prop := ∃ (L R : List Of) (A : Option Addr) (c : Nat), l = L ++ R ∧ i = .int .i64 L.length ∧ o = .slice A (ownO p L).length c ∧ OwnL ofE 4 35 w.heap.size wr (.slice A (ownO p L).length c) (ownO p L) ∧ Below w.heap.size w wr
theorem ownO_snoc (p : ByteArray) (L : List Of) (z : Of) : ownO p (L ++ [z]) = if seq z.p p then ownO p L ++ [z] else ownO p L := by
  unfold ownO
  rw [List.filter_append]
  by_cases h : seq z.p p = true <;> simp [h]
theorem law_others (A M : Option Addr) (c mc : Nat) (l : List Of) (p : ByteArray) (ms : List Int) (w : World) (hl : l.length ≤ 9223372036854775807) (hc : l.length ≤ c) (hml : ms.length ≤ 9223372036854775807) (hmc : ms.length ≤ mc) (hr : Rd ofE 4 w w.heap.size A l) (hm : Rd inE 1 w w.heap.size M ms) (hsz : ∀ z ∈ l, z.p.size ≤ 9223372036854775807) :
    Calls Try.prog 4 #[.slice A l.length c, .string p, .slice M ms.length mc] w fun e w' => e = .returned (.bool true) ∧ Below w.heap.size w w' := by
  have HR := Lib.hid (hr.pre 16)
  have HMR := Lib.hid (hm.pre 20)
  obtain ⟨l', hl'⟩ : ∃ l', l' = l.take 16 := ⟨_, rfl⟩
  obtain ⟨m', hm'⟩ : ∃ m', m' = ms.take 20 := ⟨_, rfl⟩
  have hll : l'.length ≤ 16 := by rw [hl', few_len]; omega
  have hllc : l'.length ≤ c := by rw [hl', few_len]; omega
  have hmll : m'.length ≤ 20 := by rw [hm', few_len]; omega
  have HSZ := Lib.hid (show ∀ z ∈ l', z.p.size ≤ 9223372036854775807 from fun z h => hsz z (List.take_subset 16 l (by rw [← hl']; exact h)))
  have e2 : min l.length 16 = l'.length := by rw [hl', few_len]
  have e3 : min ms.length 20 = m'.length := by rw [hm', few_len]
  rw [← hl'] at HR
  rw [← hm'] at HMR
  have HF := Lib.hid (few_f A c l.length)
  rw [e2] at HF
  have HD := Lib.hid (days_f M mc ms.length)
  rw [e3] at HD
  obtain ⟨R, E, hs⟩ : ∃ R E, suspS l' p m' = (R, E) := ⟨_, _, rfl⟩
  have HS := Lib.hid hs
  clear hr hm hsz hl' hm' e2 e3
  by_cases hE : E = 0
  · subst hE
    obtain ⟨hck, hR⟩ := susp_ok hs
    have HCK := Lib.hid hck
    have HOT := Lib.hid (show suspS (ownO p l') p m' = (R, 0) by rw [others p m' hck, hs])
    have hRl : R.length ≤ 20 := by have := susp_len hs; omega
    clear hs hck hR
    go_enter Try.func4, Try.ntmps4
    go_wp2_with (first
      | (go_at_call 8; refine (awake_any _).mono ?_; rintro e w1 ⟨rfl, hb1⟩; have HB := Lib.hid hb1; clear hb1)
      | (go_at_call 9; refine (HF.out _ hl hc).mono ?_; rintro e wn ⟨rfl, hbn⟩; replace HB := Lib.hid (cur_step1 HB.out hbn); clear hbn)
      | (go_at_call 14; refine (HD.out _ hml hmc).mono ?_; rintro e wn ⟨rfl, hbn⟩; replace HB := Lib.hid (cur_step1 HB.out hbn); clear hbn)
      | (go_at_call 15; refine (susp_q A M c mc l' p m' R 0 _ (by omega) hllc (by omega) (HR.out.to HB.out) (HMR.out.to HB.out) HSZ.out HS.out).mono ?_; rintro e w3 ⟨A2, c2, rfl, hrd, hb3⟩; have HRA := Lib.hid hrd; have HB3 := Lib.hid (cur_step1 HB.out hb3); clear hrd hb3))
    have HRA3 := Lib.hid HRA.out
    go_loopw [9, 34] (OwR w3 l' p) (fun _ i _ => l'.length - (intOf i).toNat)
    case atStart => exact ⟨[], l', none, 0, rfl, rfl, rfl, World.ownsRow_nil _ _ _ _, Below.refl _ _⟩
    case round =>
      obtain ⟨L, T, A3, c3, hLT, rfl, rfl, hown, hB⟩ := hrel
      have HLT := Lib.hid hLT
      have HO := Lib.hid hown
      have HBr := Lib.hid hB
      have HB4 := Lib.hid (cur_step1 HB3.out hB)
      have hol : (ownO p L).length ≤ 16 := by
        have h1 := List.length_filter_le (fun z => seq z.p p) L
        have h2 : L.length ≤ l'.length := by rw [hLT]; simp
        unfold ownO
        omega
      have HON := Lib.hid (ownO_snoc p L)
      obtain ⟨W, hW⟩ : ∃ W, ownO p L = W := ⟨_, rfl⟩
      have HW := Lib.hid hW
      rw [hW] at HO HON hol ⊢
      clear hLT hown hB hW
      cases T with
      | cons z T' =>
        have hz : l'[L.length]? = some z := by rw [HLT.out]; simp
        have hlt : L.length < l'.length := by rw [HLT.out]; simp
        obtain ⟨b, off, rfl, hbb, hcl⟩ := HR.out.at_ HB4.out hz
        obtain ⟨d0, d1, d2, d3⟩ := of_cells hcl
        have es := seq_to z.p p
        have HLT2 := Lib.hid (show l' = (L ++ [z]) ++ T' by rw [HLT.out]; simp)
        have hb1 := HBr.out.size
        clear hcl hz
        cases hsz : seq z.p p
        · rw [hsz] at es
          have HO2 := Lib.hid (show ownO p (L ++ [z]) = W by rw [HON.out, hsz]; rfl)
          clear hsz
          go_wp2_with fail
          go_roundw
          case rel => exact ⟨L ++ [z], T', A3, c3, HLT2.out, by simp, by rw [HO2.out], by rw [HO2.out]; exact own_below HO.out (cur_new _ _) (Nat.le_refl _), cur_step1 HBr.out (cur_new _ _)⟩
          case measure => simp [intOf]; omega
        · rw [hsz] at es
          have HO2 := Lib.hid (show ownO p (L ++ [z]) = W ++ [z] by rw [HON.out, hsz]; rfl)
          clear hsz
          go_wp2_with (at_builtin; refine wpList_app1 Try.ofElem _ rfl (.tmp 42) (.tmp 44) rfl w3.heap.size A3 c3 W rfl ?o1 z (wr.heap.size + 1) 1 rfl ?o2 ?o3 ?o4 ?o5 ?_)
          case o1 => exact own_below HO.out (cur_two _ _ _) (Nat.le_refl _)
          case o2 => exact two_new _ _ _
          case o3 => unfold maxLen; omega
          case o4 => omega
          case o5 => simp; omega
          intro g cap w6 ha
          obtain ⟨hb2, ho2⟩ := app1_end HBr.out (fun b hb => (own_range HO.out b hb).1) (cur_two _ _ _) ha
          have HO3 := Lib.hid ho2
          have HB6 := Lib.hid hb2
          clear ha ho2 hb2
          go_wp2_with fail
          go_roundw
          case rel => exact ⟨L ++ [z], T', some ⟨g, 0, none⟩, cap, HLT2.out, by simp, by rw [HO2.out]; simp, by rw [HO2.out]; exact HO3.out, HB6.out⟩
          case measure => simp [intOf]; omega
      | nil =>
        have hl2 : l' = L := by simpa using HLT.out
        have HOW := Lib.hid (show ownO p l' = W by rw [hl2]; exact HW.out)
        have HOT2 := Lib.hid (show suspS W p m' = (R, 0) by rw [← HOW.out]; exact HOT.out)
        have hnl : ¬ L.length < l'.length := by rw [hl2]; omega
        have HSW := Lib.hid (show ∀ z ∈ W, z.p.size ≤ 9223372036854775807 from fun z hz => HSZ.out z (by rw [← HOW.out] at hz; exact (List.mem_filter.1 hz).1))
        obtain ⟨A4, c4, e4, hrd4, _⟩ := HO.out.rd ofE_len
        have hcap := own_cap HO.out
        injection e4 with e41 e42 e43
        subst e41 e43
        have HRW := Lib.hid hrd4
        have HRA4 := Lib.hid (HRA3.out.to HBr.out)
        clear hl2 hrd4
        go_wp2_with (first
          | (go_at_call 15; refine (susp_q A3 M c3 mc W p m' R 0 _ (by omega) hcap (by omega) HRW.out (HMR.out.to HB4.out) HSW.out HOT2.out).mono ?_; rintro e w7 ⟨A5, c5, rfl, hrd5, hb7⟩; have HR7 := Lib.hid hrd5; have HB7 := Lib.hid (cur_step1 HB4.out hb7); have HRA7 := Lib.hid (HRA4.out.to hb7); clear hrd5 hb7)
          | (go_at_call 16; refine (eq_f _ _ _ _ R R true _ (by omega) (by omega) HRA7.out HR7.out (by simp)).mono ?_; rintro e w8 ⟨rfl, hb8⟩))
        go_ret
        exact ⟨rfl, cur_step1 HB7.out hb8⟩
  · have hR := susp_err hs hE
    subst hR
    have hEn : (E == 0) = false := by simpa using hE
    clear hs
    go_enter Try.func4, Try.ntmps4
    go_wp2_with (first
      | (go_at_call 8; refine (awake_any _).mono ?_; rintro e w1 ⟨rfl, hb1⟩; have HB := Lib.hid hb1; clear hb1)
      | (go_at_call 9; refine (HF.out _ hl hc).mono ?_; rintro e wn ⟨rfl, hbn⟩; replace HB := Lib.hid (cur_step1 HB.out hbn); clear hbn)
      | (go_at_call 14; refine (HD.out _ hml hmc).mono ?_; rintro e wn ⟨rfl, hbn⟩; replace HB := Lib.hid (cur_step1 HB.out hbn); clear hbn)
      | (go_at_call 15; refine (susp_q A M c mc l' p m' [] E _ (by omega) hllc (by omega) (HR.out.to HB.out) (HMR.out.to HB.out) HSZ.out HS.out).mono ?_; rintro e w3 ⟨A2, c2, rfl, hrd, hb3⟩; have HB3 := Lib.hid (cur_step1 HB.out hb3); clear hrd hb3))
    go_ret
    exact ⟨ret_bool (by simp), HB3.out⟩
end Go.Proofs.Ytpgamjcaegbdoaa
