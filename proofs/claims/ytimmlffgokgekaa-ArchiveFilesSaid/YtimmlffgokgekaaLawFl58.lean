/-
  Chapter 58: ArchiveFiles: the walk.
-/
import Derived.Test.YtimmlffgokgekaaAwkM
import Derived.Test.YtimmlffgokgekaaFil58
set_option linter.unusedSimpArgs false
set_option linter.unusedVariables false
namespace Go.Proofs.Ytimmlffgokgekaa
open Go.RowKit
set_option maxRecDepth 100000
set_option maxHeartbeats 20000000
theorem law_files (A0 : Option Addr) (c0 : Nat) (b : List Ent) (sc : ByteArray) (w : World) (hb : b.length ≤ c0) (hbc : c0 ≤ 9223372036854775807) (hss : sc.size ≤ 9223372036854775807)
    (hsb : ∀ x ∈ b, x.sc.size ≤ 9223372036854775807) (hdb : Rd entE 21 w w.heap.size A0 b) :
    Calls Try.prog 4 #[.slice A0 b.length c0, .string sc] w fun e w' => e = .returned (.bool true) ∧ Below w.heap.size w w' := by
  have HSB := Lib.hid hsb
  have HDB := Lib.hid hdb
  clear hsb hdb
  obtain ⟨m, hm⟩ : ∃ m : Nat, min sc.size 20 = m := ⟨_, rfl⟩
  have hm1 : m ≤ sc.size := by omega
  have hm2 : min (sc.size : Int) 20 = (m : Nat) := by omega
  obtain ⟨q, hq⟩ : ∃ q, sc.extract 0 m = q := ⟨_, rfl⟩
  have HQ := Lib.hid hq
  have HQS := Lib.hid (show q.size ≤ 9223372036854775807 by rw [← hq]; simp only [ByteArray.size_extract]; omega)
  clear hq hm
  go_enter Try.func4, Try.ntmps4
  go_wp2_with (fail)
  refine (awake_p w).mono ?_
  rintro e w1 ⟨rfl, hb1⟩
  have HB1 := Lib.hid hb1
  clear hb1
  go_upto_region 3 with (fail)
  refine wp_region_any (by kernel_rfl) ?_
  try (change wpAny _ _ _ _ _ _ _ (World.drew _))
  refine wpAny_take (i := 0) (v := ?_) rfl (by kernel_rfl) (by kernel_rfl) (by kernel_rfl) (fun _ _ _ h => h) (Or.inl ⟨by rfl, ?_⟩) ?_
  rotate_left
  · intro w
    go_simp
    try with_reducible rfl
  refine wpAny_take (i := 2) (v := ?_) rfl (by kernel_rfl) (by kernel_rfl) (by kernel_rfl) (fun _ _ _ h => h) (Or.inl ⟨by rfl, ?_⟩) ?_
  rotate_left
  · intro w
    go_simp
    try with_reducible rfl
  refine wpAny_take (i := 3) (v := ?_) rfl (by kernel_rfl) (by kernel_rfl) (by kernel_rfl) (fun _ _ _ h => h) (Or.inl ⟨by rfl, ?_⟩) ?_
  rotate_left
  · intro w
    go_simp
    try with_reducible rfl
  refine wpAny_take (i := 4) (v := ?_) rfl (by kernel_rfl) (by kernel_rfl) (by kernel_rfl) (fun _ _ _ h => h) (Or.inl ⟨by rfl, ?_⟩) ?_
  rotate_left
  · intro w
    go_simp
    try with_reducible rfl
  refine wpAny_take (i := 5) (v := ?_) rfl (by kernel_rfl) (by kernel_rfl) (by kernel_rfl) (fun _ _ _ h => h) (Or.inl ⟨by rfl, ?_⟩) ?_
  rotate_left
  · intro w
    go_simp
    try with_reducible rfl
  refine wpAny_take (i := 6) (v := .string q) rfl (by kernel_rfl) (by kernel_rfl) (by kernel_rfl) (fun _ _ _ h => h) (Or.inl ⟨by rfl, ?_⟩) ?_
  · intro w
    go_simp
    exact HQ.out
  obtain ⟨W1, hW1⟩ : ∃ y, w1.drew = y := ⟨_, rfl⟩
  have HBD := Lib.hid (show Below w.heap.size w W1 by rw [← hW1]; exact cur_step1 HB1.out (cur_drew w1 1))
  rw [hW1]
  clear hW1
  refine wpAny_ready (rs := [1]) (by kernel_rfl) (by simp) ?_
  refine AllReady.cons rfl (fun K hK => ?_) AllReady.nil
  go_simp
  refine (few_p b A0 c0 W1 hb hbc HSB.out (HDB.out.to HBD.out)).mono ?_
  rintro e w2 ⟨⟨v, rfl, ho⟩, hb2⟩
  obtain ⟨B1, d1, rfl, hrd, _⟩ := OwnL.rd entE_len ho
  have HB2 := Lib.hid (cur_step1 HBD.out hb2)
  have HR := Lib.hid hrd
  have HSF := Lib.hid (fewA_sc b)
  have HLF := Lib.hid (fewA_len b)
  generalize fewA b = F at HR HSF HLF ⊢
  clear ho hrd hb2 HBD HB1 HSB HDB
  obtain ⟨l, hl⟩ : ∃ l, F.map Ent.ev = l := ⟨_, rfl⟩
  have HFL := Lib.hid hl
  have HLL := Lib.hid (show l.length ≤ 12 by rw [← hl]; simp; exact HLF.out)
  clear hl
  dsimp only
  refine hK _ _ ?_
  clear hK K
  go_simp
  refine wpAny_ready (rs := [7]) (by kernel_rfl) (by simp) ?_
  refine AllReady.cons rfl (fun K hK => ?_) AllReady.nil
  go_simp
  refine hK _ _ ?_
  clear hK K
  refine wpAny_ready (rs := [8]) (by kernel_rfl) (by simp) ?_
  refine AllReady.cons rfl (fun K hK => ?_) AllReady.nil
  go_simp
  refine hK _ _ ?_
  clear hK K
  refine wpAny_done (by kernel_rfl) ?_ _
  go_wp2_with (fail)
  refine (log_p F B1 d1 w2 (by have := HLF.out; omega) HR.out).mono ?_
  rw [HFL.out]
  rintro e w3 ⟨⟨v, rfl, ho⟩, hb3⟩
  obtain ⟨L1, e1, rfl, hrd, _⟩ := OwnL.rd evE_len ho
  have HB3 := Lib.hid (cur_step1 HB2.out hb3)
  have HR3 := Lib.hid (HR.out.to hb3)
  have HL3 := Lib.hid hrd
  clear ho hrd hb3
  go_wp2_with (fail)
  refine (chka_p F B1 d1 w3 (by have := HLF.out; omega) (fun x hx => Nat.le_trans (HSF.out x hx) (by decide)) HR3.out).mono ?_
  rintro e w4 ⟨rfl, hb4⟩
  have HB4 := Lib.hid (cur_step1 HB3.out hb4)
  have HR4 := Lib.hid (HR3.out.to hb4)
  have HL4 := Lib.hid (HL3.out.to hb4)
  clear hb4
  go_wp2_with (fail)
  refine (chka_r F B1 d1 w4 (by have := HLF.out; omega) (fun x hx => Nat.le_trans (HSF.out x hx) (by decide)) HR4.out).mono ?_
  rintro e w5 ⟨rfl, hb5⟩
  have HB5 := Lib.hid (cur_step1 HB4.out hb5)
  have HR5 := Lib.hid (HR4.out.to hb5)
  have HL5 := Lib.hid (HL4.out.to hb5)
  clear hb5
  generalize chkA F = cf
  go_wp2_with (fail)
  refine (log_r F B1 d1 w5 (by have := HLF.out; omega) HR5.out).mono ?_
  rw [HFL.out]
  rintro e w6 ⟨⟨v, rfl, ho⟩, hb6⟩
  obtain ⟨L2, e2, rfl, hrd, _⟩ := OwnL.rd evE_len ho
  have HB6 := Lib.hid (cur_step1 HB5.out hb6)
  have HL6 := Lib.hid (HL5.out.to hb6)
  have HM6 := Lib.hid hrd
  clear ho hrd hb6 HR HR3 HR4 HR5 HL3 HL4 HL5
  go_wp2_with (fail)
  refine (eq_evs L1 L2 e1 e2 l l w6 (by have := HLL.out; omega) (by have := HLL.out; omega) HL6.out HM6.out).mono ?_
  rintro e w7 ⟨rfl, hb7⟩
  rw [show decide (l = l) = true from decide_eq_true rfl]
  have HB7 := Lib.hid (cur_step1 HB6.out hb7)
  have HL7 := Lib.hid (HL6.out.to hb7)
  clear hb7
  go_wp2_with (fail)
  refine (file_p l q L1 e1 w7 (by have := HLL.out; omega) HQS.out HL7.out).mono ?_
  rintro e w8 ⟨⟨A8, c8, rfl, hr8⟩, hb8⟩
  have HB8 := Lib.hid (cur_step1 HB7.out hb8)
  have HL8 := Lib.hid (HL7.out.to hb8)
  have HA8 := Lib.hid hr8
  clear hr8 hb8
  go_wp2_with (fail)
  refine (file_r l q L1 e1 w8 (by have := HLL.out; omega) HQS.out HL8.out).mono ?_
  rintro e w9 ⟨⟨A9, c9, rfl, hr9⟩, hb9⟩
  have HB9 := Lib.hid (cur_step1 HB8.out hb9)
  have HL9 := Lib.hid (HL8.out.to hb9)
  have HA9 := Lib.hid (HA8.out.to hb9)
  have HC9 := Lib.hid hr9
  clear hr9 hb9
  obtain ⟨G, hG⟩ : ∃ G, filM (filE l q) = G := ⟨_, rfl⟩
  obtain ⟨v, hv⟩ : ∃ v, chkA (filE l q) = v := ⟨_, rfl⟩
  have HGL := Lib.hid (show G.length ≤ 12 by
    rw [← hG]; unfold filM; split
    · rw [filE_len]; exact HLL.out
    · simp)
  have HGV := Lib.hid (show v = 0 → G.map Ent.ev = l from fun h => by rw [← hG]; unfold filM; rw [if_pos (by rw [hv]; exact h), filE_ev])
  rw [hG] at HA9 HC9 ⊢
  rw [hv]
  clear hG hv
  go_wp2_with (fail)
  refine (eq_ent A8 A9 c8 c9 G G w9 (by have := HGL.out; omega) (by have := HGL.out; omega) HA9.out HC9.out).mono ?_
  rintro e w10 ⟨rfl, hb10⟩
  rw [show decide (G = G) = true from decide_eq_true rfl]
  have HB10 := Lib.hid (cur_step1 HB9.out hb10)
  have HL10 := Lib.hid (HL9.out.to hb10)
  have HA10 := Lib.hid (HA9.out.to hb10)
  clear hb10
  by_cases hv0 : v = 0
  · subst hv0
    have HEV := Lib.hid (HGV.out rfl)
    go_wp2_with (fail)
    refine (log_p G A8 c8 w10 (by have := HGL.out; omega) HA10.out).mono ?_
    rw [HEV.out]
    rintro e w11 ⟨⟨v, rfl, ho⟩, hb11⟩
    obtain ⟨L3, e3, rfl, hrd, _⟩ := OwnL.rd evE_len ho
    have HB11 := Lib.hid (cur_step1 HB10.out hb11)
    have HL11 := Lib.hid (HL10.out.to hb11)
    have HM11 := Lib.hid hrd
    clear ho hrd hb11
    go_wp2_with (fail)
    refine (eq_evs L3 L1 e3 e1 l l w11 (by have := HLL.out; omega) (by have := HLL.out; omega) HM11.out HL11.out).mono ?_
    rintro e w12 ⟨rfl, hb12⟩
    rw [show decide (l = l) = true from decide_eq_true rfl]
    have HB12 := Lib.hid (cur_step1 HB11.out hb12)
    clear hb12
    go_wp2_with (fail)
    go_ret
    exact ⟨rfl, HB12.out⟩
  · have gv : (v != 0) = true := by simpa using hv0
    clear hv0
    go_wp2_with (fail)
    go_ret
    exact ⟨rfl, HB10.out⟩
end Go.Proofs.Ytimmlffgokgekaa
