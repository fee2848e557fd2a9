/-
  Chapter 47: the law DeclareSteps: the walk.
-/
import Derived.Test.YtkmkdknjpnkkpaaDoorAwk47
import Derived.Test.YtkmkdknjpnkkpaaDoorSml47
import Derived.Test.YtkmkdknjpnkkpaaDoorVal47
set_option linter.unusedSimpArgs false
set_option linter.unusedVariables false
namespace Go.Proofs.YtkmkdknjpnkkpaaDoor
open Go.RowKit
set_option maxRecDepth 100000
set_option maxHeartbeats 4000000
theorem unit_p (m : Nat) (w : World) (hm : m ≤ 12) :
    Calls Tryd.prog 8 #[.int .i64 m] w fun e w' => e = .returned (.tuple #[.int .i64 (P16 m), .int .i64 0]) ∧ w = w' := by
  have h1 := P16_le hm
  rw [P16_12] at h1
  have h2 := P16_pos m
  have hsh : wrap64 (1 * 2 ^ (4 * m)) = P16 m := by
    rw [← P16_pow]
    unfold wrap64; omega
  have HSH := Lib.hid hsh
  have hsh2 : wrap64 (2 ^ (4 * m)) = P16 m := by rw [Int.one_mul] at hsh; exact hsh
  clear hsh h1 h2
  go_enter Tryd.func8, Tryd.ntmps8
  go_wp2
  go_ret2
  exact ⟨by simp; exact hsh2, rfl⟩
theorem ck3_next {t : Tk} {lead m lead' m' : Int} (h : ck3 t lead m = 0) (hm : 0 ≤ m' ∧ m' ≤ m) (hl : -1200 ≤ lead') : ck3 t lead' m' = if 1200 < lead' then 2 else 0 := by
  obtain ⟨hok, ⟨hm0, hm1⟩, hl0, hl1⟩ := ck3_ok h
  have h0 : ckT t = 0 := by
    unfold ck3 at h
    split at h
    · contradiction
    · rename_i h1; simpa using h1
  unfold ck3
  rw [if_neg (by simpa using h0)]
  by_cases h1 : 1200 < lead'
  · rw [if_pos h1, if_pos (by omega)]
  · rw [if_neg h1, if_neg (by omega)]
theorem val_ge_now {t : Tk} (m : Nat) (lead : Int) : nowT t lead m ≤ valT t m lead := by
  cases m with
  | zero => exact Int.le_refl _
  | succ m => rw [valT]; omega
def StR (t : Tk) (f : Int → Int) (A W : Option Addr) (c wc : Nat) (w : World) (s i : Value) (wr : World) : Prop := ∃ k : Nat, k ≤ t.d.length ∧ i = .int .i64 k ∧ s = .int .i64 (onS f (t.d.take k)) ∧ Blk wr w.heap.size 25 (tkL t A W c wc) ∧ Below w.heap.size w wr
theorem law_st (t : Tk) (A W : Option Addr) (c wc : Nat) (lead m mx : Int) (w : World) (hd : Rd ocE 3 w w.heap.size A t.d) (hw : Rd2 w w.heap.size W t.win) (hm : w.cell? ⟨0, 0, none⟩ = some (.int .i64 mx)) :
    Calls Tryd.prog 3 #[tkV t A W c wc, .int .i64 lead, .int .i64 m] w fun e w' => e = .returned (.bool true) ∧ Below w.heap.size w w' := by
  have hbk := Blk.new w 25 (tkL t A W c wc)
  have hb0 := cur_new w (.cells (tkL t A W c wc).toArray 25)
  have HM := Lib.hid ((hb0.cell (p := ⟨0, 0, none⟩) (Lib.lt_of_cell hm)).trans hm)
  unfold tkL at hbk hb0 HM
  have HD := Lib.hid hd
  have HW := Lib.hid hw
  clear hd hw hm
  cases hs : smB t
  · have HS := Lib.hid hs
    clear hs
    go_enter Tryd.func3, Tryd.ntmps3
    go_wp2_with fail
    refine (awake_d mx _ HM.out).mono ?_
    rintro e w1 ⟨rfl, hb1⟩
    have HB1 := Lib.hid (cur_step1 hb0 hb1)
    obtain ⟨t0, t1, t2, t3, t4⟩ := tk_cells (hbk.to hb1)
    clear hb1
    go_wp2_with fail
    refine (small_f t A W c wc false _ (HW.out.to HB1.out) HS.out).mono ?_
    rintro e w2 ⟨rfl, hb2⟩
    have HB2 := Lib.hid (cur_step1 HB1.out hb2)
    clear hb2
    go_wp2_with fail
    go_ret
    exact ⟨rfl, HB2.out⟩
  have HS := Lib.hid hs
  have hsm := sm_of hs
  clear hs
  obtain ⟨e0, he0⟩ : ∃ e0, ck3 t lead m = e0 := ⟨_, rfl⟩
  by_cases h0 : e0 ≠ 0
  · have HV := Lib.hid (show ValT t lead m = (0, e0) by unfold ValT; rw [he0, if_pos h0])
    have e1 : (e0 != 0) = true := by simpa using h0
    clear h0 he0
    go_enter Tryd.func3, Tryd.ntmps3
    go_wp2_with fail
    refine (awake_d mx _ HM.out).mono ?_
    rintro e w1 ⟨rfl, hb1⟩
    have HB1 := Lib.hid (cur_step1 hb0 hb1)
    have HK1 := Lib.hid (hbk.to hb1)
    obtain ⟨t0, t1, t2, t3, t4⟩ := tk_cells HK1.out
    clear hb1
    go_wp2_with fail
    refine (small_f t A W c wc true _ (HW.out.to HB1.out) HS.out).mono ?_
    rintro e w2 ⟨rfl, hb2⟩
    have HB2 := Lib.hid (cur_step1 HB1.out hb2)
    have HK2 := Lib.hid (HK1.out.to hb2)
    clear hb2 t0 t1 t2 t3 t4 HK1
    obtain ⟨t0, t1, t2, t3, t4⟩ := tk_cells HK2.out
    go_wp2_with fail
    refine (Value_p t A W c wc lead m _ hsm (HD.out.to HB2.out) (HW.out.to HB2.out)).mono ?_
    rw [HV.out]
    rintro e w3 ⟨rfl, hb3⟩
    have HB3 := Lib.hid (cur_step1 HB2.out hb3)
    clear hb3
    go_wp2_with fail
    go_ret
    exact ⟨rfl, HB3.out⟩
  have h0' : e0 = 0 := by simpa using h0
  subst h0'
  clear h0
  obtain ⟨hok, ⟨hm0, hm1⟩, hl0, hl1⟩ := ck3_ok he0
  obtain ⟨M, rfl⟩ : ∃ M : Nat, m = M := ⟨m.toNat, by omega⟩
  have hov := hok.ov
  have hM11 : M ≤ 11 := by omega
  have hvb := hok.val hm1 lead
  have hnb := hok.now hm1 lead
  have hvn := val_ge_now (t := t) M lead
  have hvm := hok.val_mono hm1 (show lead ≤ lead + 1 by omega)
  have hpl := P16_le (show M + 1 ≤ 12 by omega)
  rw [P16_12] at hpl
  have HV := Lib.hid (show ValT t lead M = (valT t M lead, 0) by unfold ValT; rw [he0, if_neg (by simp), Int.toNat_natCast])
  have HN := Lib.hid (show NowT t lead M = (nowT t lead M, 0) by unfold NowT; rw [he0, if_neg (by simp), Int.toNat_natCast])
  have hce := ck3_next (lead' := lead + 1) (m' := (M : Int)) he0 (by omega) (by omega)
  have hnx : ∃ w0 w1 : Int, ValT t (lead + 1) M = (w0, w1) ∧ (w1 = 0 → valT t M lead ≤ w0) := by
    unfold ValT
    rw [hce]
    by_cases h : 1200 < lead + 1
    · rw [if_pos h, if_pos (by decide)]; exact ⟨_, _, rfl, fun h => by cases h⟩
    · rw [if_neg h, if_neg (by decide), Int.toNat_natCast]; exact ⟨_, _, rfl, fun _ => hvm⟩
  obtain ⟨v0, v1, hnx1, hnx2⟩ := hnx
  have HNX := Lib.hid hnx1
  have HCN := Lib.hid (show ∀ o ∈ t.d, 0 < M → ValT t (lead + o.r) ((M : Int) - 1) = if 1200 < lead + o.r then (0, 2) else (valT t (M - 1) (lead + o.r), 0) from fun o ho hM => by
    have h1 := hok.d.each o ho
    have h2 := ck3_next (lead' := lead + o.r) (m' := (M : Int) - 1) he0 (by omega) (by omega)
    unfold ValT
    rw [h2]
    by_cases h : 1200 < lead + o.r
    · rw [if_pos h, if_pos (by decide), if_pos h]
    · rw [if_neg h, if_neg (by decide), if_neg h, show ((M : Int) - 1).toNat = M - 1 by omega])
  have HVS := Lib.hid (show 0 < M → valT t M lead = max (nowT t lead M) (onS (fun r => valT t (M - 1) (lead + r)) t.d) from fun hM => by
    cases M with
    | zero => omega
    | succ M => rfl)
  have HV0 := Lib.hid (show M = 0 → valT t M lead = nowT t lead M from fun hM => by subst hM; rfl)
  have HPB := Lib.hid (fun (hM : 0 < M) j => hok.part (f := fun r => valT t (M - 1) (lead + r)) (M := P16 M) (by have := P16_pos M; omega) (fun o _ => by have := hok.val (m := M - 1) (by omega) (lead + o.r); rwa [show M - 1 + 1 = M by omega] at this) j)
  have HVB := Lib.hid (fun (hM : 0 < M) l => show 0 ≤ valT t (M - 1) l ∧ valT t (M - 1) l ≤ P16 M by have := hok.val (m := M - 1) (by omega) l; rwa [show M - 1 + 1 = M by omega] at this)
  have hpe : P16 (M + 1) = 16 * P16 M := rfl
  have HE := Lib.hid hok.d.each
  have hdl := hok.d.len
  clear he0 hce hvm hnx1 hok
  generalize hvv : valT t M lead = v at *
  generalize hnn : nowT t lead M = n at *
  clear hvv hnn
  go_enter Tryd.func3, Tryd.ntmps3
  go_wp2_with fail
  refine (awake_d mx _ HM.out).mono ?_
  rintro e w1 ⟨rfl, hb1⟩
  have HB1 := Lib.hid (cur_step1 hb0 hb1)
  have HK1 := Lib.hid (hbk.to hb1)
  obtain ⟨t0, t1, t2, t3, t4⟩ := tk_cells HK1.out
  clear hb1
  go_wp2_with fail
  refine (small_f t A W c wc true _ (HW.out.to HB1.out) HS.out).mono ?_
  rintro e w2 ⟨rfl, hb2⟩
  have HB2 := Lib.hid (cur_step1 HB1.out hb2)
  have HK2 := Lib.hid (HK1.out.to hb2)
  clear hb2 t0 t1 t2 t3 t4 HK1
  obtain ⟨t0, t1, t2, t3, t4⟩ := tk_cells HK2.out
  go_wp2_with fail
  refine (Value_p t A W c wc lead M _ hsm (HD.out.to HB2.out) (HW.out.to HB2.out)).mono ?_
  rw [HV.out]
  rintro e w3 ⟨rfl, hb3⟩
  have HB3 := Lib.hid (cur_step1 HB2.out hb3)
  have HK3 := Lib.hid (HK2.out.to hb3)
  clear hb3 t0 t1 t2 t3 t4 HK2
  obtain ⟨t0, t1, t2, t3, t4⟩ := tk_cells HK3.out
  go_wp2_with fail
  refine (Now_p t A W c wc lead M _ hsm (HD.out.to HB3.out) (HW.out.to HB3.out)).mono ?_
  rw [HN.out]
  rintro e w4 ⟨rfl, hb4⟩
  have HB4 := Lib.hid (cur_step1 HB3.out hb4)
  have HK4 := Lib.hid (HK3.out.to hb4)
  clear hb4 t0 t1 t2 t3 t4 HK3
  obtain ⟨t0, t1, t2, t3, t4⟩ := tk_cells HK4.out
  go_wp2_with fail
  refine (unit_p (M + 1) _ (by omega)).mono ?_
  rintro e w5 ⟨rfl, rfl⟩
  go_wp2_with fail
  refine (Value_p t A W c wc (lead + 1) M _ hsm (HD.out.to HB4.out) (HW.out.to HB4.out)).mono ?_
  rw [HNX.out]
  rintro e w6 ⟨rfl, hb6⟩
  have HB6 := Lib.hid (cur_step1 HB4.out hb6)
  have HK6 := Lib.hid (HK4.out.to hb6)
  clear hb6 t0 t1 t2 t3 t4 HK4
  obtain ⟨t0, t1, t2, t3, t4⟩ := tk_cells HK6.out
  have hq : (v1 = 0 ∧ v ≤ v0) ∨ (v1 == 0) = false := by
    by_cases h : v1 = 0
    · exact .inl ⟨h, hnx2 h⟩
    · exact .inr (by simpa using h)
  clear hnx2
  by_cases hm0 : M = 0
  · have hvn0 := HV0.out hm0
    have hmz : ((M : Int) == 0) = true := by simp [hm0]
    clear hm0
    subst hvn0
    rcases hq with ⟨rfl, hq⟩ | hq
    all_goals
      go_wp2_with fail
      go_ret
      exact ⟨rfl, HB6.out⟩
  · have hmp : 0 < M := by omega
    have hmz : ((M : Int) == 0) = false := by simpa using hm0
    clear hm0
    rcases hq with ⟨rfl, hq⟩ | hq
    all_goals
      go_wp2_with fail
      clear t0 t1 t2 t3 t4
      go_loopw [15, 92] (StR t (fun r => valT t (M - 1) (lead + r)) A W c wc w) (fun _ i _ => t.d.length - (intOf i).toNat)
      case atStart => exact ⟨0, by omega, rfl, rfl, HK6.out, HB6.out⟩
      case round =>
        obtain ⟨k, hk, rfl, rfl, hk2, hb⟩ := hrel
        clear HK6 HB6
        have HB := Lib.hid hb
        have HK := Lib.hid hk2
        clear hk2 hb
        by_cases hlt : k < t.d.length
        · obtain ⟨z, hz⟩ : ∃ z, t.d[k]? = some z := ⟨_, List.getElem?_eq_getElem hlt⟩
          obtain ⟨ob, ooff, rfl, hob, hoc⟩ := HD.out.at_ HB.out hz
          obtain ⟨c0, c1, c2⟩ := oc_cells hoc
          have hmem := List.mem_of_getElem? hz
          have hez := HE.out z hmem
          have hcn := HCN.out z hmem hmp
          have HT := Lib.hid (onS_take (f := fun r => valT t (M - 1) (lead + r)) hz)
          have hp := HPB.out hmp k
          have hp1 := HPB.out hmp (k + 1)
          rw [HT.out] at hp1
          obtain ⟨zr, zk, zw⟩ := z
          simp only [] at hez hp1 c0 c1 c2 hcn
          have hfb := HVB.out hmp (lead + zr)
          obtain ⟨fv, hfv⟩ : ∃ fv, valT t (M - 1) (lead + zr) = fv := ⟨_, rfl⟩
          have HT2 := Lib.hid (show onS (fun r => valT t (M - 1) (lead + r)) (t.d.take (k + 1)) = onS (fun r => valT t (M - 1) (lead + r)) (t.d.take k) + zw * fv by rw [HT.out, hfv])
          rw [hfv] at hp1 hfb hcn
          have HCV := Lib.hid hcn
          have hbo := cur_new wr (.cells #[.int .i64 zr, .bool zk, .int .i64 zw] 33)
          obtain ⟨t0, t1, t2, t3, t4⟩ := tk_cells (HK.out.to hbo)
          have ho := Blk.new wr 33 [.int .i64 zr, .bool zk, .int .i64 zw]
          have k0 := ho.cell 0
          have k2 := ho.cell 2
          simp only [List.getElem?_cons_zero, List.getElem?_cons_succ] at k0 k2
          have HO := Lib.hid ho
          have HBo := Lib.hid (cur_step1 HB.out hbo)
          have HKo := Lib.hid (HK.out.to hbo)
          have hm0' : 0 ≤ zw * fv := Int.mul_nonneg (by omega) hfb.1
          obtain ⟨S, hS⟩ : ∃ S, onS (fun r => valT t (M - 1) (lead + r)) (t.d.take k) = S := ⟨_, rfl⟩
          rw [hS] at hp hp1 HT2 ⊢
          have hr1 : -9223372036854775808 ≤ zw * fv ∧ zw * fv ≤ 9223372036854775807 := by omega
          have hr2 : -9223372036854775808 ≤ S + zw * fv ∧ S + zw * fv ≤ 9223372036854775807 := by omega
          clear hoc hz hmem hfv HT hp1 hS hcn ho hbo
          by_cases hbig : 1200 < lead + zr
          · have HCW := Lib.hid (show ValT t (lead + zr) ((M : Int) - 1) = (0, 2) by rw [HCV.out, if_pos hbig])
            go_wp2_with fail
            refine (Value_p t (some ⟨ob, ooff, none⟩) W c wc (lead + zr) ((M : Int) - 1) _ hsm (HD.out.to HBo.out) (HW.out.to HBo.out)).mono ?_
            rw [HCW.out]
            rintro e w7 ⟨rfl, hb7⟩
            have HB7 := Lib.hid (cur_step1 HBo.out hb7)
            have k0' := (HO.out.to hb7).cell 0
            simp only [List.getElem?_cons_zero] at k0'
            clear hb7 t0 t1 t2 t3 t4 k0 k2
            go_wp2_with fail
            go_ret
            exact ⟨rfl, HB7.out⟩
          · have HCW := Lib.hid (show ValT t (lead + zr) ((M : Int) - 1) = (fv, 0) by rw [HCV.out, if_neg hbig])
            go_wp2_with fail
            refine (Value_p t (some ⟨ob, ooff, none⟩) W c wc (lead + zr) ((M : Int) - 1) _ hsm (HD.out.to HBo.out) (HW.out.to HBo.out)).mono ?_
            rw [HCW.out]
            rintro e w7 ⟨rfl, hb7⟩
            have HB7 := Lib.hid (cur_step1 HBo.out hb7)
            have HK7 := Lib.hid (HKo.out.to hb7)
            have k2' := (HO.out.to hb7).cell 2
            simp only [List.getElem?_cons_zero, List.getElem?_cons_succ] at k2'
            clear hb7 t0 t1 t2 t3 t4 k0 k2
            go_wp2_with fail
            go_roundw
            case rel => exact ⟨k + 1, hlt, by simp, by rw [HT2.out], HK7.out, HB7.out⟩
            case measure => simp [intOf]; omega
        · have HV2 := Lib.hid (show onS (fun r => valT t (M - 1) (lead + r)) (t.d.take k) = onS (fun r => valT t (M - 1) (lead + r)) t.d by rw [List.take_of_length_le (by omega)])
          have hvs := HVS.out hmp
          rw [HV2.out]
          generalize onS (fun r => valT t (M - 1) (lead + r)) t.d = ov at *
          by_cases hno : n < ov
          · obtain rfl : v = ov := by omega
            clear hvs
            go_wp2_with fail
            go_ret
            exact ⟨ret_bool (by rw [beq_iff_eq]; omega), HB.out⟩
          · obtain rfl : v = n := by omega
            clear hvs
            go_wp2_with fail
            go_ret
            exact ⟨ret_bool (by rw [beq_iff_eq]; omega), HB.out⟩
end Go.Proofs.YtkmkdknjpnkkpaaDoor
