/-
  Chapter 58: ArchiveVersions: the walk.
-/
import Derived.Test.YtimmlffgokgekaaVrG58
import Derived.Test.YtimmlffgokgekaaAwkM
set_option linter.unusedSimpArgs false
set_option linter.unusedVariables false
namespace Go.Proofs.Ytimmlffgokgekaa
open Go.RowKit
set_option maxRecDepth 100000
set_option maxHeartbeats 20000000
theorem cm_info : (Try.prog.info? 62).map (·.size) = some 2 := by kernel_rfl
def r10F (base : Int) (z : Vr) (b6 : Nat) (U : Option Addr) (un d : Nat) (fn : Nat) (N E : Int) (X : Nat) (a : Act) (x : R10) : Act :=
  (((((((((((((((a.put (some 51) (.agg #[.slice U un d])).put (some 52) (.pointer (some ⟨b6, 0, none⟩))).put (some 53) (.int .i64 base)).put (some 54) (.pointer (some ⟨b6, 1, none⟩))).put (some 55) (.slice z.a z.l.length z.c)).put (some 56) (.slice x.A1 fn x.d1)).put (some 57) (.tuple #[.agg #[.slice x.U x.us.length x.d], .int .i64 N, .slice x.A3 X x.c3, .int .i64 E])).put (some 50) (.tuple #[.agg #[.slice x.U x.us.length x.d], .int .i64 N, .slice x.A3 X x.c3, .int .i64 E])).put (some 58) (.agg #[.slice x.U x.us.length x.d])).put (some 59) (.int .i64 N)).put (some 60) (.slice x.A3 X x.c3)).put (some 61) (.int .i64 E)).put (some 10) (.pointer (some ⟨x.b10, 0, none⟩))).put (some 11) (.int .i64 N)).put (some 12) (.slice x.A3 X x.c3)).put (some 13) (.int .i64 E)
def V2R (n : Nat) (w : World) (iv : Value) (wr : World) : Prop := ∃ k : Nat, k ≤ n + 2 ∧ iv = .int .i64 k ∧ Below w.heap.size w wr
def VrR (B0 bA b4 : Nat) (w : World) (n : Nat) (iv : Value) (wr : World) : Prop :=
  ∃ (k : Nat) (V : Option Addr) (c : Nat) (vs : List Vr) (U : Option Addr) (d : Nat) (us : List Vr), k ≤ n ∧ iv = .int .i64 k ∧ vs.length ≤ k ∧ VrG B0 bA b4 V c vs U d us wr ∧ Below w.heap.size w wr ∧ vs.map prV = us.map prV ∧ LenV (vs.map prV)
theorem comV_len (vs : List Vr) (base : Int) (f : List Ent) : (comV vs base f).length ≤ vs.length + 1 := by
  unfold comV; split <;> simp
theorem eq_cl_self (A B : Option Addr) (c d : Nat) (l : List Int) (w : World) (hl : l.length ≤ 1000000) (hr : Rd inE 1 w w.heap.size A l) (hs : Rd inE 1 w w.heap.size B l) :
    Calls Try.prog 13 #[.slice A l.length c, .slice B l.length d] w fun e w' => e = .returned (.bool true) ∧ Below w.heap.size w w' := by
  refine (eq_cl A B c d l l w hl hl hr hs).mono ?_
  rintro e w1 ⟨rfl, hb⟩
  exact ⟨by rw [show decide (l = l) = true from decide_eq_true rfl], hb⟩
theorem law_versions (A0 : Option Addr) (c0 : Nat) (l : List Vr) (w : World) (hl : l.length ≤ c0) (hc : c0 ≤ 9223372036854775807) (hq : ∀ z ∈ l, z.l.length ≤ z.c ∧ z.c ≤ 9223372036854775807 ∧ Rd entE 21 w w.heap.size z.a z.l ∧ ∀ x ∈ z.l, x.sc.size ≤ 9223372036854775807) (hrd : Rd verE 2 w w.heap.size A0 l) :
    Calls Try.prog 6 #[.slice A0 l.length c0] w fun e w' => e = .returned (.bool true) ∧ Below w.heap.size w w' := by
  obtain ⟨n, hn0⟩ : ∃ n, l.length = n := ⟨_, rfl⟩
  rw [hn0] at hl ⊢
  obtain ⟨m, hm0⟩ : ∃ m, l.take 6 = m := ⟨_, rfl⟩
  have hlen : min n 6 = m.length := by rw [← hm0, ← hn0]; simp; omega
  have HQ := Lib.hid (show ∀ z ∈ m, z.l.length ≤ z.c ∧ z.c ≤ 9223372036854775807 ∧ Rd entE 21 w w.heap.size z.a z.l ∧ ∀ x ∈ z.l, x.sc.size ≤ 9223372036854775807 by intro z hz; rw [← hm0] at hz; exact hq z (List.mem_of_mem_take hz))
  have HRD := Lib.hid (show Rd verE 2 w w.heap.size A0 m by rw [← hm0]; exact hrd.pre 6)
  have hm6 : m.length ≤ 6 := by omega
  have hmin : min (n : Int) 6 = (m.length : Nat) := by omega
  have h1 : (m.length : Int) ≤ c0 := by omega
  have h2 : ¬ (c0 : Int) < m.length := by omega
  clear hq hrd hm0 hn0 hlen
  go_enter Try.func6, Try.ntmps6
  go_wp2_with (fail)
  refine (awake_p w).mono ?_
  rintro e w1 ⟨rfl, hb1⟩
  have HB1 := Lib.hid hb1
  clear hb1
  go_wp2_with (fail)
  refine (new_p w1).mono ?_
  rintro e w2 ⟨rfl, hA2, hb2⟩
  have HA2 := Lib.hid hA2
  have HB2 := Lib.hid hb2
  have HB02 := Lib.hid (cur_step1 HB1.out hb2)
  have HW1 := Lib.hid (show w1.heap.size < w2.heap.size from hA2.blk.lt)
  clear hA2 hb2
  obtain ⟨bA, hbA⟩ : ∃ y, w1.heap.size = y := ⟨_, rfl⟩
  have HWA := Lib.hid (show w.heap.size ≤ bA by rw [← hbA]; exact HB1.out.size)
  rw [hbA] at HA2 HW1 ⊢
  clear hbA
  obtain ⟨W3, hW3⟩ : ∃ y, w2.alloc (.cells #[.slice none 0 0] 60) = y := ⟨_, rfl⟩
  have hb3 : Below w2.heap.size w2 W3 := by rw [← hW3]; exact cur_new _ _
  have HI3 := Lib.hid (show VrG bA bA w2.heap.size none 0 [] none 0 [] W3 from
    ⟨HA2.out.to hb3, ⟨Rd.nil_, (fun v hv => by cases hv)⟩, (by rw [← hW3]; exact Blk.new _ _ _), ⟨by have := HW1.out; omega, (fun e => by cases e)⟩, (fun b o e => by cases e), (fun v hv => by cases hv), (fun v hv => by cases hv), (by have := HW1.out; omega)⟩)
  have HB3 := Lib.hid (cur_step1 HB02.out hb3)
  have S3 := Lib.hid hW3
  clear hW3 hb3
  go_wp2_with (fail)
  try rw [S3.out]
  obtain ⟨b4, hb4⟩ : ∃ y, w2.heap.size = y := ⟨_, rfl⟩
  rw [hb4] at HI3 ⊢
  clear hb4 S3
  go_loopw [35] (VrR bA bA b4 w m.length) (fun i _ => m.length - (intOf i).toNat)
  case atStart => exact ⟨0, _, _, _, _, _, _, by omega, rfl, by decide, HI3.out, HB3.out, rfl, ⟨(fun i p hp => by simp at hp), (fun p hp => by simp at hp)⟩⟩
  case round =>
    clear HI3 HB3
    obtain ⟨k, V, c, vs, U, d, us, hk, rfl, hvk, hI, hb, hsm, hlv⟩ := hrel
    have HSM := Lib.hid hsm
    have HLV := Lib.hid hlv
    have HGE := Lib.hid hI.arc.ge
    have HI := Lib.hid hI
    have HB := Lib.hid hb
    clear hI hb hsm hlv
    by_cases hkl : k < m.length
    · obtain ⟨z, hz⟩ : ∃ z, m[k]? = some z := ⟨_, List.getElem?_eq_getElem hkl⟩
      have hk6 : k < 6 := by omega
      obtain ⟨b2, off2, hA0, hb2l, hc2⟩ := rd_at HRD.out HB.out hz
      subst hA0
      have HRA := Lib.hid hc2
      have HZ := Lib.hid (HQ.out z (List.mem_of_getElem? hz))
      clear hc2 hz
      obtain ⟨W6, hW6⟩ : ∃ y, wr.alloc (.cells (verE z).toArray 62) = y := ⟨_, rfl⟩
      have hb6 : Below wr.heap.size wr W6 := by rw [← hW6]; exact cur_new _ _
      have HX6 := Lib.hid (show Blk W6 wr.heap.size 62 (verE z) by rw [← hW6]; exact Blk.new wr _ _)
      have S6 := Lib.hid hW6
      have HB6 := Lib.hid (cur_step1 HB.out hb6)
      have HI6 := Lib.hid hb6
      clear hW6 hb6
      go_upto_region 9 with (first | (refine wpList_load_mid rfl 62 _ rfl b2 (off2 + k * 2) (by rfl) (verE z) _ HRA.out (by rfl) (by rfl) cm_info ?_) | (refine wpList_storeNew rfl _ _ 62 rfl _ (verE z).toArray cm_info (by rfl) (by rfl) rfl (by simp [verE, Value.oneCell']) ?_; rw [S6.out]))
      obtain ⟨b6, hb6⟩ : ∃ y, wr.heap.size = y := ⟨_, rfl⟩
      have HBN := Lib.hid (show w.heap.size ≤ b6 by rw [← hb6]; exact HB.out.size)
      rw [hb6] at HX6 ⊢
      have HB6E := Lib.hid hb6
      clear hb6
      refine wp_region_held_drew (S := fun w' => Blk w' b6 62 (verE z)) (by kernel_rfl) HX6.out (fun hS => ?_)
      refine wpAnyH_take (i := 0) (v := ?_) rfl (by kernel_rfl) (by kernel_rfl) (by kernel_rfl) (fun _ _ _ h => h) (Or.inl ⟨by rfl, ?_⟩) hS ?_
      rotate_left
      · intro w' _
        go_simp
        try with_reducible rfl
      refine wpAnyH_take (i := 1) (v := ?_) rfl (by kernel_rfl) (by kernel_rfl) (by kernel_rfl) (fun _ _ _ h => h) (Or.inl ⟨by rfl, ?_⟩) hS ?_
      rotate_left
      · intro w' _
        go_simp
        try with_reducible rfl
      refine wpAnyH_take (i := 2) (v := .int .i64 z.base) rfl (by kernel_rfl) (by kernel_rfl) (by kernel_rfl) (fun _ _ _ h => h) (Or.inl ⟨by rfl, ?_⟩) hS ?_
      · intro w' hw'
        have z0 := (show w'.cell? ⟨b6, 0, none⟩ = some (.int .i64 z.base) from hw'.cell 0)
        go_simp
      refine wpAnyH_take (i := 3) (v := ?_) rfl (by kernel_rfl) (by kernel_rfl) (by kernel_rfl) (fun _ _ _ h => h) (Or.inl ⟨by rfl, ?_⟩) hS ?_
      rotate_left
      · intro w' _
        go_simp
        try with_reducible rfl
      refine wpAnyH_take (i := 4) (v := .slice z.a z.l.length z.c) rfl (by kernel_rfl) (by kernel_rfl) (by kernel_rfl) (fun _ _ _ h => h) (Or.inl ⟨by rfl, ?_⟩) hS ?_
      · intro w' hw'
        have z0 := (show w'.cell? ⟨b6, 1, none⟩ = some (.slice z.a z.l.length z.c) from hw'.cell 1)
        go_simp
      obtain ⟨D6, hD6⟩ : ∃ y, W6.drew = y := ⟨_, rfl⟩
      have hbd : Below W6.heap.size W6 D6 := by rw [← hD6]; exact cur_drew W6 1
      have HBD := Lib.hid (cur_step1 HB6.out hbd)
      have HGD := Lib.hid ((HI.out.to HI6.out).to hbd)
      rw [hD6] at hS ⊢
      have HS0 := Lib.hid hS
      clear hD6 hbd hS
      obtain ⟨f, hf⟩ : ∃ f, fewA z.l = f := ⟨_, rfl⟩
      have HF12 := Lib.hid (show f.length ≤ 12 by rw [← hf]; exact fewA_len z.l)
      have HFS := Lib.hid (show ∀ x ∈ f, x.sc.size ≤ 20 by rw [← hf]; exact fewA_sc z.l)
      have HF := Lib.hid hf
      clear hf
      have hv5 : vs.length ≤ 5 := by omega
      refine wpAnyH_ready (rs := [5]) (by kernel_rfl) (by simp) ?_
      refine AllReadyH.cons rfl (fun K' hK => ?_) AllReadyH.nil
      go_simp
      refine (few_p z.l z.a z.c D6 HZ.out.1 HZ.out.2.1 HZ.out.2.2.2 (HZ.out.2.2.1.to HBD.out)).mono ?_
      rw [HF.out]
      rintro e u1 ⟨⟨v1, rfl, ho1⟩, hb1⟩
      obtain ⟨A1, d1, rfl, hr1, hxx⟩ := OwnL.rd entE_len ho1
      have HR1 := Lib.hid hr1
      have HG1 := Lib.hid (HGD.out.to hb1)
      have HB1' := Lib.hid (cur_step1 HBD.out hb1)
      have HS1 := Lib.hid (HS0.out.to hb1)
      dsimp only
      refine hK.out _ _ HS1.out (fun _ => ?_)
      clear hK K' hxx hr1 ho1 hb1
      refine wpAnyH_ready (rs := [6]) (by kernel_rfl) (by simp) ?_
      refine AllReadyH.cons rfl (fun K' hK => ?_) AllReadyH.nil
      go_simp
      refine (commit_c bA bA V c vs z.base A1 d1 f u1 (by have := HG1.out.arc.blk.lt; omega) (by omega) HF12.out HFS.out HR1.out HG1.out.arc HLV.out.all (HLV.out.sum hv5 HF12.out)).mono ?_
      rintro e u2 ⟨V', c', vs', A2, c2, rfl, hr2, hA', hpr, hfar, hV', hvs', hA2⟩
      have HR2 := Lib.hid hr2
      have HG2 := Lib.hid (HG1.out.com hA' hfar hV' hvs')
      have HPR := Lib.hid hpr
      have HA2' := Lib.hid hA2
      have HB2' := Lib.hid (show Below w.heap.size w u2 from HB1'.out.trans (hfar.below (HB1'.out.size) (fun x hx => by
        rcases List.mem_cons.1 hx with e | e
        · rw [e]; exact HWA.out
        · have h1 := (own_range HG1.out.arc.own x (by simpa using e)).1
          have := HWA.out
          omega)))
      have hn6 : b6 ≠ bA ∧ (Value.slice V vs.length c).ownBlock ≠ some b6 := by
        have h1 := HI.out.arc.blk.lt
        have h2 := HB6E.out
        refine ⟨by omega, fun e => ?_⟩
        have h3 := (own_range HI.out.arc.own b6 e).2
        omega
      have HS2 := Lib.hid (HS1.out.far hfar (notin hn6.1 hn6.2))
      dsimp only
      refine hK.out _ _ HS2.out (fun hS => ?_)
      clear hK K' hr2 hA' hpr hfar hV' hvs' hA2 hn6
      refine wpAnyH_take (i := 7) (v := ?_) rfl (by kernel_rfl) (by kernel_rfl) (by kernel_rfl) (fun _ _ _ h => h) (Or.inl ⟨by rfl, ?_⟩) hS ?_
      rotate_left
      · intro w' _
        go_simp
        try with_reducible rfl
      refine wpAnyH_take (i := 8) (v := ?_) rfl (by kernel_rfl) (by kernel_rfl) (by kernel_rfl) (fun _ _ _ h => h) (Or.inl ⟨by rfl, ?_⟩) hS ?_
      rotate_left
      · intro w' _
        go_simp
        try with_reducible rfl
      refine wpAnyH_take (i := 9) (v := ?_) rfl (by kernel_rfl) (by kernel_rfl) (by kernel_rfl) (fun _ _ _ h => h) (Or.inl ⟨by rfl, ?_⟩) hS ?_
      rotate_left
      · intro w' _
        go_simp
        try with_reducible rfl
      refine wpAnyH_take (i := 10) (v := ?_) rfl (by kernel_rfl) (by kernel_rfl) (by kernel_rfl) (fun _ _ _ h => h) (Or.inl ⟨by rfl, ?_⟩) hS ?_
      rotate_left
      · intro w' _
        go_simp
        try with_reducible rfl
      refine wpAnyH_ready (rs := [11]) (by kernel_rfl) (by simp) ?_
      refine AllReadyH.cons rfl (fun K' hK => ?_) AllReadyH.nil
      go_simp
      refine hK.out _ _ hS (fun _ => ?_)
      clear hK K'
      refine wpAnyH_ready (rs := [12]) (by kernel_rfl) (by simp) ?_
      refine AllReadyH.cons rfl (fun K' hK => ?_) AllReadyH.nil
      go_simp
      refine hK.out _ _ hS (fun _ => ?_)
      clear hK K'
      refine wpAnyH_ready (rs := [13]) (by kernel_rfl) (by simp) ?_
      refine AllReadyH.cons rfl (fun K' hK => ?_) AllReadyH.nil
      go_simp
      refine hK.out _ _ hS (fun _ => ?_)
      clear hK K'
      refine wpAnyH_done (by kernel_rfl) ?_ _
      clear hS
      go_upto_region 10 with (fail)
      have HLV2 := Lib.hid (show LenV (us.map prV) by rw [← HSM.out]; exact HLV.out)
      have hul : us.length = vs.length := ((fileV_pr HSM.out 0).2.2).symm
      have hu5 : us.length ≤ 5 := by omega
      have HUL := Lib.hid hul
      clear hul
      refine wp_absA (r10F z.base z b6 U us.length d f.length (comN us.length z.base f) (comE us.length z.base f) (comX us z.base f).length) (R10C bA b4 V' c' vs' U d us z.base f A2 (comX vs z.base f) u2) ?reg ?beh
      case beh =>
        intro x u4 hx4
        obtain ⟨hb4', hr4, hrow4, hfil4, hbox4, hpr4, hcl4, ha34⟩ := hx4
        have HB4 := Lib.hid (cur_step1 HB2'.out hb4')
        have HG4 := Lib.hid (HG2.out.to hb4')
        have HRA2 := Lib.hid (HR2.out.to hb4')
        have HRA3 := Lib.hid hcl4
        have HBOX := Lib.hid hbox4
        obtain ⟨xU, xd, xus, xA1, xd1, xA3, xc3, xb10⟩ := x
        dsimp only at hr4 hrow4 hfil4 hbox4 hpr4 hcl4 ha34 HBOX HRA3
        have HA34 := Lib.hid ha34
        have HG5 := Lib.hid (HG4.out.put (d' := xd) (s := u2.heap.size) HG2.out.arc.blk.lt (fun b hb => (own_range HG2.out.arc.own b hb).2) HG2.out.cell.lt hr4 hrow4 hfil4)
        have HPX := Lib.hid (show vs'.map prV = xus.map prV by rw [HPR.out, hpr4]; exact (comF_pr HSM.out z.base f).1)
        have HLX := Lib.hid (show LenV (vs'.map prV) by rw [HPR.out]; exact HLV.out.next HF12.out HFS.out z.base)
        have HCX := Lib.hid (show comX us z.base f = comX vs z.base f from (comF_pr HSM.out z.base f).2.1.symm)
        have HUN := Lib.hid (show us.length = vs.length from HUL.out)
        have HVL := Lib.hid (show vs'.length ≤ k + 1 by have h1 := congrArg List.length HPR.out; have h2 := comV_len vs z.base f; simp at h1; omega)
        have hsz4 := hb4'.size
        clear hb4' hr4 hrow4 hfil4 hbox4 hpr4 hcl4 ha34
        rw [HCX.out] at HRA3
        unfold r10F
        dsimp only
        rw [HCX.out, HUN.out]
        have HXL := Lib.hid (show (comX vs z.base f).length ≤ 1000000 from Nat.le_trans (comX_len HLV.out hv5 HF12.out z.base) (by decide))
        generalize comX vs z.base f = X at HRA2 HRA3 HXL ⊢
        generalize comN vs.length z.base f = N
        generalize comE vs.length z.base f = E
        go_simp
        go_upto_region 11 with (fail)
        refine wp_region_lit ?_
        refine wpList_loadC rfl _ 60 rfl xb10 60 [.slice xU xus.length xd] _ rfl (by rfl) (by rfl) (by rfl) HBOX.out ?_
        refine wpList_storeC rfl _ _ 60 rfl b4 60 [.slice U us.length d] ([.slice xU xus.length xd] : List Value).toArray arR_info (by rfl) (by rfl) HG4.out.cell (by rfl) (by simp [Value.oneCell']) ?_
        have hF5 := Far.row (w := u4) b4 #[.slice xU xus.length xd]
        have HRB2 := Lib.hid (rd_far HRA2.out hF5 (fun b o e => by
          have h1 := HA2'.out b o e
          have h2 := HG1.out.cell.lt
          simp
          omega))
        have HRB3 := Lib.hid (rd_far HRA3.out hF5 (fun b o e => by
          have h1 := HA34.out b o e
          have h2 := HG2.out.cell.lt
          simp
          omega))
        have HB5 := Lib.hid (show Below w.heap.size w _ from HB4.out.trans (hF5.below HB4.out.size (fun x hx => by
          simp at hx
          rw [hx]
          have := HWA.out
          have := HG2.out.ge
          omega)))
        clear hF5
        change wpList _ _ _ _ _ (u4.setRow b4 #[.slice xU xus.length xd])
        generalize u4.setRow b4 #[.slice xU xus.length xd] = u5 at HG5 HRB2 HRB3 HB5 ⊢
        clear HG4 HRA2 HRA3 HBOX
        have hlen5 : ((vs'.length : Int) != (xus.length : Int)) = false := by have := (fileV_pr HPX.out 0).2.2; simp; omega
        obtain ⟨CS, hCS⟩ : ∃ CS : List (Nat × Nat × Value), CS = [(bA, 0, .slice V' vs'.length c'), (b4, 0, .slice xU xus.length xd)] := ⟨_, rfl⟩
        have K5 : Keep u5 u5 CS := ⟨Below.refl _ _, fun q hq => by
          rw [hCS] at hq
          simp at hq
          rcases hq with rfl | rfl
          · exact ⟨HG5.out.arc.blk.lt, HG5.out.arc.blk.cell 0⟩
          · exact ⟨HG5.out.cell.lt, HG5.out.cell.cell 0⟩⟩
        have k0 : ∀ s : Wd u5 CS, s.w.cell? ⟨bA, 0, none⟩ = some (.slice V' vs'.length c') := fun s => s.h.get (by simp [hCS])
        have k1 : ∀ s : Wd u5 CS, s.w.cell? ⟨b4, 0, none⟩ = some (.slice xU xus.length xd) := fun s => s.h.get (by simp [hCS])
        have hex : ∀ s : Wd u5 CS, ∃ s' : Wd u5 CS, s.w = s'.w := fun s => ⟨s, rfl⟩
        haveI hne : Nonempty (Wd u5 CS) := ⟨⟨_, K5⟩⟩
        have HCS := Lib.hid hCS
        clear hCS
        go_upto_region 12 with (fail)
        try go_simp
        refine wp_region_wd u5 CS (by kernel_rfl) (by kernel_rfl) K5.drew ?_
        repeat (go_big_quiet_step (first | (go_at_call 13; refine (eq_cl_self A2 xA3 c2 xc3 X _ HXL.out (HRB2.out.to (Wd.h _).1) (HRB3.out.to (Wd.h _).1)).mono ?_; rintro e w9 ⟨rfl, hb9⟩; exact ⟨rfl, ⟨w9, (Wd.h _).to hb9⟩, rfl⟩) | (go_at_call 27; refine (head_p _ bA V' vs'.length c' (HG5.out.arc.blk.to (Wd.h _).1)).mono ?_; rintro e w9 ⟨rfl, hb9⟩; exact ⟨rfl, ⟨w9, (Wd.h _).to hb9⟩, rfl⟩) | (go_at_call 28; refine (head_r _ xU xus.length xd).mono ?_; rintro e w9 ⟨rfl, hb9⟩; exact ⟨rfl, ⟨w9, (Wd.h _).to hb9⟩, rfl⟩)))
        refine wpQuiet_nil ?_
        rintro u6 ⟨s6, hs6⟩
        have K6 : Keep u5 u6 CS := by rw [hs6]; exact s6.h
        have HG6 := Lib.hid (HG5.out.to K6.1)
        have HB6x := Lib.hid (cur_step1 HB5.out K6.1)
        clear hs6 s6 K6 K5 k0 k1 hex hne HCS
        try simp only []
        go_upto_region 14 with (fail)
        refine wp_region_lit ?_
        refine wpList_loadC rfl _ 60 rfl b4 60 [.slice xU xus.length xd] _ rfl (by rfl) (by rfl) (by rfl) HG6.out.cell ?_
        go_wp2_with (fail)
        refine (head_r u6 xU xus.length xd).mono ?_
        rintro e u7 ⟨rfl, hb7⟩
        have HG7 := Lib.hid (HG6.out.to hb7)
        have HB7 := Lib.hid (cur_step1 HB6x.out hb7)
        have hx6 : xus.length ≤ 6 := by have h1 := (fileV_pr HPX.out 0).2.2; have h2 := HVL.out; omega
        clear hb7 HG6 HB6x
        go_wp2_with (fail)
        go_loopw [87] (V2R xus.length u7) (fun i _ => xus.length + 2 - (intOf i).toNat)
        case atStart => exact ⟨0, by omega, rfl, Below.refl _ _⟩
        case round =>
          obtain ⟨q, hq, rfl, hbq⟩ := hrel
          have HQB := Lib.hid hbq
          clear hbq
          by_cases hql : q < xus.length + 2
          · have hqi : (q : Int) < (xus.length : Int) + 2 := by omega
            have HG8 := Lib.hid (HG7.out.to HQB.out)
            have HV6 := Lib.hid (show vs'.length ≤ 64 by have h1 := HVL.out; omega)
            obtain ⟨F, hF⟩ : ∃ F, fileV xus (q : Int) = F := ⟨_, rfl⟩
            obtain ⟨ce, hce⟩ : ∃ ce, chkV xus.length (q : Int) = ce := ⟨_, rfl⟩
            obtain ⟨bv, hbv⟩ : ∃ bv, baseV xus (q : Int) = bv := ⟨_, rfl⟩
            have HF1 := Lib.hid (show fileV vs' (q : Int) = F by rw [(fileV_pr HPX.out (q : Int)).1, hF])
            have HC1 := Lib.hid (show chkV vs'.length (q : Int) = ce by rw [(fileV_pr HPX.out 0).2.2, hce])
            have HV1 := Lib.hid (show baseV vs' (q : Int) = bv by rw [(fileV_pr HPX.out (q : Int)).2.1, hbv])
            have HF2 := Lib.hid hF
            have HC2 := Lib.hid hce
            have HV2 := Lib.hid hbv
            have HFL := Lib.hid (show F.length ≤ 1000000 by
              rw [← HF1.out]
              by_cases hh : hasB vs'.length (q : Int) = true
              · have h1 := (HLX.out.file hh).1
                have h2 : (q : Int) ≤ (vs'.length : Int) := by unfold hasB at hh; have := of_decide_eq_true hh; exact this.2
                have h3 := Bd_le ((q : Int).toNat - 1) (by have := HVL.out; omega)
                omega
              · unfold fileV; rw [if_neg hh]; simp)
            clear hF hce hbv
            go_wp2_with (fail)
            refine (get_v bA bA V' c' vs' (q : Int) wr HV6.out (fun v hv => by
              obtain ⟨i, hi⟩ := List.getElem?_of_mem hv
              have h1 := HLX.out.len i (prV v) (by rw [List.getElem?_map, hi]; rfl)
              have h2 := (List.getElem?_eq_some_iff.1 hi).1
              have h3 := Bd_le i (by have := HVL.out; omega)
              exact Nat.le_trans h1 (by omega)) HG8.out.arc).mono ?_
            rw [HF1.out, HC1.out]
            rintro e y1 ⟨⟨v1, rfl, ho1⟩, hy1⟩
            obtain ⟨P1, p1, rfl, hr1, hxx⟩ := OwnL.rd entE_len ho1
            have HP1 := Lib.hid hr1
            have HY1 := Lib.hid (HG8.out.to hy1)
            have HZ1 := Lib.hid (cur_step1 HQB.out hy1)
            clear hxx hr1 ho1 hy1
            go_upto_region 18 with (fail)
            refine wp_region_lit ?_
            refine wpList_loadC rfl _ 60 rfl b4 60 [.slice xU xus.length xd] _ rfl (by rfl) (by rfl) (by rfl) HY1.out.cell ?_
            (refine wpList_step (fun K hK => ?_); go_simp; refine hK _ _ ?_; clear hK K)
            go_wp2_with (fail)
            refine (get_r xU xd xus (q : Int) y1 (by omega) HY1.out.ref).mono ?_
            rw [HF2.out, HC2.out]
            rintro e y2 ⟨⟨P2, p2, rfl, hr2⟩, hy2⟩
            have HP2 := Lib.hid hr2
            have HP12 := Lib.hid (HP1.out.to hy2)
            have HY2 := Lib.hid (HY1.out.to hy2)
            have HZ2 := Lib.hid (cur_step1 HZ1.out hy2)
            clear hr2 hy2
            go_wp2_with (fail)
            refine (base_v bA bA V' c' vs' (q : Int) y2 HV6.out HY2.out.arc).mono ?_
            rw [HV1.out, HC1.out]
            rintro e y3 ⟨rfl, hy3⟩
            have HP13 := Lib.hid (HP12.out.to hy3)
            have HP23 := Lib.hid (HP2.out.to hy3)
            have HY3 := Lib.hid (HY2.out.to hy3)
            have HZ3 := Lib.hid (cur_step1 HZ2.out hy3)
            clear hy3
            go_upto_region 20 with (fail)
            refine wp_region_lit ?_
            refine wpList_loadC rfl _ 60 rfl b4 60 [.slice xU xus.length xd] _ rfl (by rfl) (by rfl) (by rfl) HY3.out.cell ?_
            (refine wpList_step (fun K hK => ?_); go_simp; refine hK _ _ ?_; clear hK K)
            go_wp2_with (fail)
            refine (base_r xU xd xus (q : Int) y3 (by omega) HY3.out.ref).mono ?_
            rw [HV2.out, HC2.out]
            rintro e y4 ⟨rfl, hy4⟩
            have HP14 := Lib.hid (HP13.out.to hy4)
            have HP24 := Lib.hid (HP23.out.to hy4)
            have HZ4 := Lib.hid (cur_step1 HZ3.out hy4)
            clear hy4
            go_wp2_with (fail)
            refine (eq_ent P1 P2 p1 p2 F F y4 HFL.out HFL.out HP14.out HP24.out).mono ?_
            rw [show decide (F = F) = true from decide_eq_true rfl]
            rintro e y5 ⟨rfl, hy5⟩
            have HZ5 := Lib.hid (cur_step1 HZ4.out hy5)
            clear hy5
            go_wp2_with (fail)
            exact ⟨⟨q + 1, by omega, rfl, HZ5.out⟩, by show xus.length + 2 - (q + 1) < xus.length + 2 - q; omega⟩
          · have hqe : ¬ (q : Int) < (xus.length : Int) + 2 := by omega
            go_wp2_with (fail)
            exact ⟨⟨k + 1, V', c', vs', xU, xd, xus, by omega, rfl, HVL.out, HG7.out.to HQB.out, cur_step1 HB7.out HQB.out, HPX.out, HLX.out⟩, by show m.length - (k + 1) < m.length - k; omega⟩
      have HSS := Lib.hid (show Blk u2 b6 62 (verE z) ∧ Blk u2 b4 60 [.slice U us.length d] from ⟨HS2.out, HG2.out.cell⟩)
      refine wp_region_held_drew (S := fun w' => Blk w' b6 62 (verE z) ∧ Blk w' b4 60 [.slice U us.length d]) (by kernel_rfl) HSS.out (fun hS => ?_)
      refine wpAnyH_take (i := 0) (v := .agg #[.slice U us.length d]) rfl (by kernel_rfl) (by kernel_rfl) (by kernel_rfl) (fun _ _ _ h => nomatch h.1) (Or.inl ⟨by rfl, ?_⟩) hS ?_
      · intro w' hw'
        have z0 := (show w'.cell? ⟨b4, 0, none⟩ = some (.slice U us.length d) from hw'.2.cell 0)
        go_simp
      refine wpAnyH_take (i := 1) (v := ?_) rfl (by kernel_rfl) (by kernel_rfl) (by kernel_rfl) (fun _ _ _ h => nomatch h.1) (Or.inl ⟨by rfl, ?_⟩) hS ?_
      rotate_left
      · intro w' _
        go_simp
        try with_reducible rfl
      refine wpAnyH_take (i := 2) (v := .int .i64 z.base) rfl (by kernel_rfl) (by kernel_rfl) (by kernel_rfl) (fun _ _ _ h => nomatch h.1) (Or.inl ⟨by rfl, ?_⟩) hS ?_
      · intro w' hw'
        have z0 := (show w'.cell? ⟨b6, 0, none⟩ = some (.int .i64 z.base) from hw'.1.cell 0)
        go_simp
      refine wpAnyH_take (i := 3) (v := ?_) rfl (by kernel_rfl) (by kernel_rfl) (by kernel_rfl) (fun _ _ _ h => nomatch h.1) (Or.inl ⟨by rfl, ?_⟩) hS ?_
      rotate_left
      · intro w' _
        go_simp
        try with_reducible rfl
      refine wpAnyH_take (i := 4) (v := .slice z.a z.l.length z.c) rfl (by kernel_rfl) (by kernel_rfl) (by kernel_rfl) (fun _ _ _ h => nomatch h.1) (Or.inl ⟨by rfl, ?_⟩) hS ?_
      · intro w' hw'
        have z0 := (show w'.cell? ⟨b6, 1, none⟩ = some (.slice z.a z.l.length z.c) from hw'.1.cell 1)
        go_simp
      obtain ⟨X0, hX0⟩ : ∃ y, u2.drew = y := ⟨_, rfl⟩
      have HX0 := Lib.hid (show Below u2.heap.size u2 X0 by rw [← hX0]; exact cur_drew u2 1)
      rw [hX0] at hS ⊢
      have HSA := Lib.hid hS
      clear hX0 hS
      refine wpAnyH_ready (rs := [5, 12]) (by kernel_rfl) (by simp) ?_
      refine AllReadyH.cons rfl (fun K' hK => ?_) (AllReadyH.cons rfl (fun K' hK => ?_) AllReadyH.nil)
      · go_simp
        refine (few_p z.l z.a z.c X0 HZ.out.1 HZ.out.2.1 HZ.out.2.2.2 (HZ.out.2.2.1.to (cur_step1 HB2'.out HX0.out))).mono ?_
        rw [HF.out]
        rintro e X1 ⟨⟨v1, rfl, ho1⟩, hb1⟩
        obtain ⟨A5, d5, rfl, hr1, hxx⟩ := OwnL.rd entE_len ho1
        have HR31 := Lib.hid hr1
        have HX1 := Lib.hid (cur_step1 HX0.out hb1)
        have HT1 := Lib.hid (show Blk X1 b6 62 (verE z) ∧ Blk X1 b4 60 [.slice U us.length d] from ⟨HSA.out.1.to hb1, HSA.out.2.to hb1⟩)
        dsimp only
        refine hK.out _ _ HT1.out (fun _ => ?_)
        clear hK K' hxx hr1 ho1 hb1
        refine wpAnyH_ready (rs := [6, 12]) (by kernel_rfl) (by simp) ?_
        refine AllReadyH.cons rfl (fun K' hK => ?_) (AllReadyH.cons rfl (fun K' hK => ?_) AllReadyH.nil)
        · go_simp
          have HWC2 := Lib.hid (show u2.heap.size ≤ X1.heap.size from HX1.out.size)
          refine (commit_q U d us z.base A5 d5 f X1 (by omega) HF12.out HFS.out HR31.out (HG2.out.ref.to HX1.out) HLV2.out.all (HLV2.out.sum hu5 HF12.out)).mono ?_
          rintro e X2 ⟨U5, c5, us5, A7, c7, rfl, hr7, hR7, hpr7, hb7, hU7, hus7, hA7⟩
          have HCR := Lib.hid hR7
          have HCL := Lib.hid hr7
          have HPR7 := Lib.hid hpr7
          have HU7 := Lib.hid hU7
          have HUS7 := Lib.hid hus7
          have HA7 := Lib.hid hA7
          have HSZ7 := Lib.hid hb7.size
          have HX2 := Lib.hid (cur_step1 HX1.out hb7)
          have HT2 := Lib.hid (show Blk X2 b6 62 (verE z) ∧ Blk X2 b4 60 [.slice U us.length d] from ⟨HT1.out.1.to hb7, HT1.out.2.to hb7⟩)
          have HR32 := Lib.hid (HR31.out.to hb7)
          dsimp only
          refine hK.out _ _ HT2.out (fun _ => ?_)
          clear hK K' hr7 hR7 hpr7 hb7 hU7 hus7 hA7
          refine wpAnyH_take (i := 7) (v := ?_) rfl (by kernel_rfl) (by kernel_rfl) (by kernel_rfl) (fun _ _ _ h => nomatch h.1) (Or.inl ⟨by rfl, ?_⟩) HT2.out ?_
          rotate_left
          · intro w' _
            go_simp
            try with_reducible rfl
          refine wpAnyH_take (i := 8) (v := ?_) rfl (by kernel_rfl) (by kernel_rfl) (by kernel_rfl) (fun _ _ _ h => nomatch h.1) (Or.inl ⟨by rfl, ?_⟩) HT2.out ?_
          rotate_left
          · intro w' _
            go_simp
            try with_reducible rfl
          refine wpAnyH_take (i := 9) (v := ?_) rfl (by kernel_rfl) (by kernel_rfl) (by kernel_rfl) (fun _ _ _ h => nomatch h.1) (Or.inl ⟨by rfl, ?_⟩) HT2.out ?_
          rotate_left
          · intro w' _
            go_simp
            try with_reducible rfl
          refine wpAnyH_take (i := 10) (v := ?_) rfl (by kernel_rfl) (by kernel_rfl) (by kernel_rfl) (fun _ _ _ h => nomatch h.1) (Or.inl ⟨by rfl, ?_⟩) HT2.out ?_
          rotate_left
          · intro w' _
            go_simp
            try with_reducible rfl
          refine wpAnyH_take (i := 11) (v := ?_) rfl (by kernel_rfl) (by kernel_rfl) (by kernel_rfl) (fun _ _ _ h => nomatch h.1) (Or.inl ⟨by rfl, ?_⟩) HT2.out ?_
          rotate_left
          · intro w' _
            go_simp
            try with_reducible rfl
          refine wpAnyH_ready (rs := [12]) (by kernel_rfl) (by simp) ?_
          refine AllReadyH.cons rfl (fun K' hK => ?_) AllReadyH.nil
          go_simp
          obtain ⟨X3, hX3⟩ : ∃ y, X2.alloc (.cells #[.slice none 0 0] 60) = y := ⟨_, rfl⟩
          have hq : Below X2.heap.size X2 X3 := by rw [← hX3]; exact cur_new _ _
          have HX3 := Lib.hid (cur_step1 HX2.out hq)
          have HBX3 := Lib.hid (show Blk X3 X2.heap.size 60 [.slice none 0 0] by rw [← hX3]; exact Blk.new _ _ _)
          have HT3 := Lib.hid (show Blk X3 b6 62 (verE z) ∧ Blk X3 b4 60 [.slice U us.length d] from ⟨HT2.out.1.to hq, HT2.out.2.to hq⟩)
          have HLE3 := Lib.hid (show u2.heap.size ≤ X2.heap.size from HX2.out.size)
          have HLE3B := Lib.hid (show X2.heap.size ≤ X2.heap.size from Nat.le_refl _)
          have HR33 := Lib.hid (HR32.out.to hq)
          have HRF3 := Lib.hid (HCR.out.to hq)
          have HCL3 := Lib.hid (HCL.out.to hq)
          refine hK.out _ _ (by rw [hX3]; exact HT3.out) (fun _ => ?_)
          try rw [hX3]
          clear hK K' hX3 hq
          refine wpAnyH_ready (rs := [13]) (by kernel_rfl) (by simp) ?_
          refine AllReadyH.cons rfl (fun K' hK => ?_) AllReadyH.nil
          refine step_storeC rfl _ _ 60 rfl (X2.heap.size) 60 [.slice none 0 0] (#[.slice U5 us5.length c5] : Array Value) arR_info (by rfl) (by rfl) HBX3.out (by rfl) (by simp [Value.oneCell']) ?_
          have hne6 : b6 ≠ X2.heap.size ∧ b4 ≠ X2.heap.size := by
            have h1 := HS2.out.lt
            have h2 := HG2.out.cell.lt
            have h3 := HLE3.out
            exact ⟨by omega, by omega⟩
          have HZS := Lib.hid (show Blk (X3.setRow (X2.heap.size) #[.slice U5 us5.length c5]) b6 62 (verE z) ∧ Blk (X3.setRow (X2.heap.size) #[.slice U5 us5.length c5]) b4 60 [.slice U us.length d] from ⟨HT3.out.1.row_other hne6.1 _, HT3.out.2.row_other hne6.2 _⟩)
          refine hK.out _ _ HZS.out (fun _ => ?_)
          clear hK K' hne6
          refine wpAnyH_ready (rs := [14]) (by kernel_rfl) (by simp) ?_
          refine AllReadyH.cons rfl (fun K' hK => ?_) AllReadyH.nil
          go_simp
          refine hK.out _ _ HZS.out (fun _ => ?_)
          clear hK K'
          refine wpAnyH_ready (rs := [15]) (by kernel_rfl) (by simp) ?_
          refine AllReadyH.cons rfl (fun K' hK => ?_) AllReadyH.nil
          go_simp
          refine hK.out _ _ HZS.out (fun _ => ?_)
          clear hK K'
          refine wpAnyH_ready (rs := [16]) (by kernel_rfl) (by simp) ?_
          refine AllReadyH.cons rfl (fun K' hK => ?_) AllReadyH.nil
          go_simp
          refine hK.out _ _ HZS.out (fun _ => ?_)
          clear hK K'
          refine wpAnyH_done (by kernel_rfl) ?_ _
          refine ⟨rfl, ⟨U5, c5, us5, A5, d5, A7, c7, X2.heap.size⟩, ?fra, r10_fin HG2.out HX3.out HWC2.out HBX3.out HLE3.out HRF3.out HCL3.out HPR7.out ?rwa ?fla ?a3a⟩
          case fra => unfold r10F; go_simp
          case rwa =>
            rcases HU7.out with h1 | h1
            · exact Or.inl h1
            · exact Or.inr (fun b o e => by
                  obtain ⟨a1, a2⟩ := h1 b o e
                  have h5 := HBX3.out.lt
                  exact ⟨a1, by omega, by show b ≠ X2.heap.size; omega⟩)
          case fla =>
            intro v hv
            rcases HUS7.out v hv with h1 | h1
            · exact Or.inl h1
            · exact Or.inr (fun b o e => by
                  obtain ⟨a1, a2⟩ := h1 b o e
                  have h5 := HBX3.out.lt
                  exact ⟨a1, by omega, by show b ≠ X2.heap.size; omega⟩)
          case a3a =>
            exact fun b o e => by
                have h1 := HA7.out b o e
                have h5 := HLE3B.out
                have h6 := HWC2.out
                exact ⟨by show b ≠ X2.heap.size; omega, by omega⟩
        · go_simp
          obtain ⟨X4, hX4⟩ : ∃ y, X1.alloc (.cells #[.slice none 0 0] 60) = y := ⟨_, rfl⟩
          have hq : Below X1.heap.size X1 X4 := by rw [← hX4]; exact cur_new _ _
          have HX4 := Lib.hid (cur_step1 HX1.out hq)
          have HBX4 := Lib.hid (show Blk X4 X1.heap.size 60 [.slice none 0 0] by rw [← hX4]; exact Blk.new _ _ _)
          have HT4 := Lib.hid (show Blk X4 b6 62 (verE z) ∧ Blk X4 b4 60 [.slice U us.length d] from ⟨HT1.out.1.to hq, HT1.out.2.to hq⟩)
          have HLE4 := Lib.hid (show u2.heap.size ≤ X1.heap.size from HX1.out.size)
          have HLE4B := Lib.hid (show X1.heap.size ≤ X1.heap.size from Nat.le_refl _)
          have HR34 := Lib.hid (HR31.out.to hq)
          refine hK.out _ _ (by rw [hX4]; exact HT4.out) (fun _ => ?_)
          try rw [hX4]
          clear hK K' hX4 hq
          refine wpAnyH_ready (rs := [6]) (by kernel_rfl) (by simp) ?_
          refine AllReadyH.cons rfl (fun K' hK => ?_) AllReadyH.nil
          go_simp
          have HWC5 := Lib.hid (show u2.heap.size ≤ X4.heap.size from HX4.out.size)
          refine (commit_q U d us z.base A5 d5 f X4 (by omega) HF12.out HFS.out HR34.out (HG2.out.ref.to HX4.out) HLV2.out.all (HLV2.out.sum hu5 HF12.out)).mono ?_
          rintro e X5 ⟨U5, c5, us5, A7, c7, rfl, hr7, hR7, hpr7, hb7, hU7, hus7, hA7⟩
          have HCR := Lib.hid hR7
          have HCL := Lib.hid hr7
          have HPR7 := Lib.hid hpr7
          have HU7 := Lib.hid hU7
          have HUS7 := Lib.hid hus7
          have HA7 := Lib.hid hA7
          have HSZ7 := Lib.hid hb7.size
          have HX5 := Lib.hid (cur_step1 HX4.out hb7)
          have HT5 := Lib.hid (show Blk X5 b6 62 (verE z) ∧ Blk X5 b4 60 [.slice U us.length d] from ⟨HT4.out.1.to hb7, HT4.out.2.to hb7⟩)
          have HR35 := Lib.hid (HR34.out.to hb7)
          have HBX5 := Lib.hid (HBX4.out.to hb7)
          have HLTB := Lib.hid (show X1.heap.size < X4.heap.size from HBX4.out.lt)
          dsimp only
          refine hK.out _ _ HT5.out (fun _ => ?_)
          clear hK K' hr7 hR7 hpr7 hb7 hU7 hus7 hA7
          refine wpAnyH_take (i := 7) (v := ?_) rfl (by kernel_rfl) (by kernel_rfl) (by kernel_rfl) (fun _ _ _ h => nomatch h.1) (Or.inl ⟨by rfl, ?_⟩) HT5.out ?_
          rotate_left
          · intro w' _
            go_simp
            try with_reducible rfl
          refine wpAnyH_take (i := 9) (v := ?_) rfl (by kernel_rfl) (by kernel_rfl) (by kernel_rfl) (fun _ _ _ h => nomatch h.1) (Or.inl ⟨by rfl, ?_⟩) HT5.out ?_
          rotate_left
          · intro w' _
            go_simp
            try with_reducible rfl
          refine wpAnyH_take (i := 10) (v := ?_) rfl (by kernel_rfl) (by kernel_rfl) (by kernel_rfl) (fun _ _ _ h => nomatch h.1) (Or.inl ⟨by rfl, ?_⟩) HT5.out ?_
          rotate_left
          · intro w' _
            go_simp
            try with_reducible rfl
          refine wpAnyH_take (i := 11) (v := ?_) rfl (by kernel_rfl) (by kernel_rfl) (by kernel_rfl) (fun _ _ _ h => nomatch h.1) (Or.inl ⟨by rfl, ?_⟩) HT5.out ?_
          rotate_left
          · intro w' _
            go_simp
            try with_reducible rfl
          refine wpAnyH_ready (rs := [8]) (by kernel_rfl) (by simp) ?_
          refine AllReadyH.cons rfl (fun K' hK => ?_) AllReadyH.nil
          go_simp
          refine hK.out _ _ HT5.out (fun _ => ?_)
          clear hK K'
          refine wpAnyH_ready (rs := [13]) (by kernel_rfl) (by simp) ?_
          refine AllReadyH.cons rfl (fun K' hK => ?_) AllReadyH.nil
          refine step_storeC rfl _ _ 60 rfl (X1.heap.size) 60 [.slice none 0 0] (#[.slice U5 us5.length c5] : Array Value) arR_info (by rfl) (by rfl) HBX5.out (by rfl) (by simp [Value.oneCell']) ?_
          have hne6 : b6 ≠ X1.heap.size ∧ b4 ≠ X1.heap.size := by
            have h1 := HS2.out.lt
            have h2 := HG2.out.cell.lt
            have h3 := HLE4.out
            exact ⟨by omega, by omega⟩
          have HZS := Lib.hid (show Blk (X5.setRow (X1.heap.size) #[.slice U5 us5.length c5]) b6 62 (verE z) ∧ Blk (X5.setRow (X1.heap.size) #[.slice U5 us5.length c5]) b4 60 [.slice U us.length d] from ⟨HT5.out.1.row_other hne6.1 _, HT5.out.2.row_other hne6.2 _⟩)
          refine hK.out _ _ HZS.out (fun _ => ?_)
          clear hK K' hne6
          refine wpAnyH_ready (rs := [14]) (by kernel_rfl) (by simp) ?_
          refine AllReadyH.cons rfl (fun K' hK => ?_) AllReadyH.nil
          go_simp
          refine hK.out _ _ HZS.out (fun _ => ?_)
          clear hK K'
          refine wpAnyH_ready (rs := [15]) (by kernel_rfl) (by simp) ?_
          refine AllReadyH.cons rfl (fun K' hK => ?_) AllReadyH.nil
          go_simp
          refine hK.out _ _ HZS.out (fun _ => ?_)
          clear hK K'
          refine wpAnyH_ready (rs := [16]) (by kernel_rfl) (by simp) ?_
          refine AllReadyH.cons rfl (fun K' hK => ?_) AllReadyH.nil
          go_simp
          refine hK.out _ _ HZS.out (fun _ => ?_)
          clear hK K'
          refine wpAnyH_done (by kernel_rfl) ?_ _
          refine ⟨rfl, ⟨U5, c5, us5, A5, d5, A7, c7, X1.heap.size⟩, ?frb, r10_fin HG2.out HX5.out HWC5.out HBX5.out HLE4.out HCR.out HCL.out HPR7.out ?rwb ?flb ?a3b⟩
          case frb => unfold r10F; go_simp
          case rwb =>
            rcases HU7.out with h1 | h1
            · exact Or.inl h1
            · exact Or.inr (fun b o e => by
                  obtain ⟨a1, a2⟩ := h1 b o e
                  have h5 := HLTB.out
                  exact ⟨a1, by have := HSZ7.out; omega, by show b ≠ X1.heap.size; omega⟩)
          case flb =>
            intro v hv
            rcases HUS7.out v hv with h1 | h1
            · exact Or.inl h1
            · exact Or.inr (fun b o e => by
                  obtain ⟨a1, a2⟩ := h1 b o e
                  have h5 := HLTB.out
                  exact ⟨a1, by have := HSZ7.out; omega, by show b ≠ X1.heap.size; omega⟩)
          case a3b =>
            exact fun b o e => by
                have h1 := HA7.out b o e
                have h5 := HLTB.out
                have h6 := HWC5.out
                exact ⟨by show b ≠ X1.heap.size; omega, by omega⟩
      · go_simp
        obtain ⟨X6, hX6⟩ : ∃ y, X0.alloc (.cells #[.slice none 0 0] 60) = y := ⟨_, rfl⟩
        have hq : Below X0.heap.size X0 X6 := by rw [← hX6]; exact cur_new _ _
        have HX6 := Lib.hid (cur_step1 HX0.out hq)
        have HBX6 := Lib.hid (show Blk X6 X0.heap.size 60 [.slice none 0 0] by rw [← hX6]; exact Blk.new _ _ _)
        have HT6 := Lib.hid (show Blk X6 b6 62 (verE z) ∧ Blk X6 b4 60 [.slice U us.length d] from ⟨HSA.out.1.to hq, HSA.out.2.to hq⟩)
        have HLE6 := Lib.hid (show u2.heap.size ≤ X0.heap.size from HX0.out.size)
        have HLE6B := Lib.hid (show X0.heap.size ≤ X0.heap.size from Nat.le_refl _)
        refine hK.out _ _ (by rw [hX6]; exact HT6.out) (fun _ => ?_)
        try rw [hX6]
        clear hK K' hX6 hq
        refine wpAnyH_ready (rs := [5]) (by kernel_rfl) (by simp) ?_
        refine AllReadyH.cons rfl (fun K' hK => ?_) AllReadyH.nil
        go_simp
        refine (few_p z.l z.a z.c X6 HZ.out.1 HZ.out.2.1 HZ.out.2.2.2 (HZ.out.2.2.1.to (cur_step1 HB2'.out HX6.out))).mono ?_
        rw [HF.out]
        rintro e X7 ⟨⟨v1, rfl, ho1⟩, hb1⟩
        obtain ⟨A5, d5, rfl, hr1, hxx⟩ := OwnL.rd entE_len ho1
        have HR37 := Lib.hid hr1
        have HX7 := Lib.hid (cur_step1 HX6.out hb1)
        have HT7 := Lib.hid (show Blk X7 b6 62 (verE z) ∧ Blk X7 b4 60 [.slice U us.length d] from ⟨HT6.out.1.to hb1, HT6.out.2.to hb1⟩)
        have HBX7 := Lib.hid (HBX6.out.to hb1)
        dsimp only
        refine hK.out _ _ HT7.out (fun _ => ?_)
        clear hK K' hxx hr1 ho1 hb1
        refine wpAnyH_ready (rs := [6]) (by kernel_rfl) (by simp) ?_
        refine AllReadyH.cons rfl (fun K' hK => ?_) AllReadyH.nil
        go_simp
        have HWC8 := Lib.hid (show u2.heap.size ≤ X7.heap.size from HX7.out.size)
        refine (commit_q U d us z.base A5 d5 f X7 (by omega) HF12.out HFS.out HR37.out (HG2.out.ref.to HX7.out) HLV2.out.all (HLV2.out.sum hu5 HF12.out)).mono ?_
        rintro e X8 ⟨U5, c5, us5, A7, c7, rfl, hr7, hR7, hpr7, hb7, hU7, hus7, hA7⟩
        have HCR := Lib.hid hR7
        have HCL := Lib.hid hr7
        have HPR7 := Lib.hid hpr7
        have HU7 := Lib.hid hU7
        have HUS7 := Lib.hid hus7
        have HA7 := Lib.hid hA7
        have HSZ7 := Lib.hid hb7.size
        have HX8 := Lib.hid (cur_step1 HX7.out hb7)
        have HT8 := Lib.hid (show Blk X8 b6 62 (verE z) ∧ Blk X8 b4 60 [.slice U us.length d] from ⟨HT7.out.1.to hb7, HT7.out.2.to hb7⟩)
        have HR38 := Lib.hid (HR37.out.to hb7)
        have HBX8 := Lib.hid (HBX7.out.to hb7)
        have HLTB := Lib.hid (show X0.heap.size < X7.heap.size from HBX7.out.lt)
        dsimp only
        refine hK.out _ _ HT8.out (fun _ => ?_)
        clear hK K' hr7 hR7 hpr7 hb7 hU7 hus7 hA7
        refine wpAnyH_take (i := 7) (v := ?_) rfl (by kernel_rfl) (by kernel_rfl) (by kernel_rfl) (fun _ _ _ h => nomatch h.1) (Or.inl ⟨by rfl, ?_⟩) HT8.out ?_
        rotate_left
        · intro w' _
          go_simp
          try with_reducible rfl
        refine wpAnyH_take (i := 9) (v := ?_) rfl (by kernel_rfl) (by kernel_rfl) (by kernel_rfl) (fun _ _ _ h => nomatch h.1) (Or.inl ⟨by rfl, ?_⟩) HT8.out ?_
        rotate_left
        · intro w' _
          go_simp
          try with_reducible rfl
        refine wpAnyH_take (i := 10) (v := ?_) rfl (by kernel_rfl) (by kernel_rfl) (by kernel_rfl) (fun _ _ _ h => nomatch h.1) (Or.inl ⟨by rfl, ?_⟩) HT8.out ?_
        rotate_left
        · intro w' _
          go_simp
          try with_reducible rfl
        refine wpAnyH_take (i := 11) (v := ?_) rfl (by kernel_rfl) (by kernel_rfl) (by kernel_rfl) (fun _ _ _ h => nomatch h.1) (Or.inl ⟨by rfl, ?_⟩) HT8.out ?_
        rotate_left
        · intro w' _
          go_simp
          try with_reducible rfl
        refine wpAnyH_ready (rs := [8]) (by kernel_rfl) (by simp) ?_
        refine AllReadyH.cons rfl (fun K' hK => ?_) AllReadyH.nil
        go_simp
        refine hK.out _ _ HT8.out (fun _ => ?_)
        clear hK K'
        refine wpAnyH_ready (rs := [13]) (by kernel_rfl) (by simp) ?_
        refine AllReadyH.cons rfl (fun K' hK => ?_) AllReadyH.nil
        refine step_storeC rfl _ _ 60 rfl (X0.heap.size) 60 [.slice none 0 0] (#[.slice U5 us5.length c5] : Array Value) arR_info (by rfl) (by rfl) HBX8.out (by rfl) (by simp [Value.oneCell']) ?_
        have hne6 : b6 ≠ X0.heap.size ∧ b4 ≠ X0.heap.size := by
          have h1 := HS2.out.lt
          have h2 := HG2.out.cell.lt
          have h3 := HLE6.out
          exact ⟨by omega, by omega⟩
        have HZS := Lib.hid (show Blk (X8.setRow (X0.heap.size) #[.slice U5 us5.length c5]) b6 62 (verE z) ∧ Blk (X8.setRow (X0.heap.size) #[.slice U5 us5.length c5]) b4 60 [.slice U us.length d] from ⟨HT8.out.1.row_other hne6.1 _, HT8.out.2.row_other hne6.2 _⟩)
        refine hK.out _ _ HZS.out (fun _ => ?_)
        clear hK K' hne6
        refine wpAnyH_ready (rs := [14]) (by kernel_rfl) (by simp) ?_
        refine AllReadyH.cons rfl (fun K' hK => ?_) AllReadyH.nil
        go_simp
        refine hK.out _ _ HZS.out (fun _ => ?_)
        clear hK K'
        refine wpAnyH_ready (rs := [15]) (by kernel_rfl) (by simp) ?_
        refine AllReadyH.cons rfl (fun K' hK => ?_) AllReadyH.nil
        go_simp
        refine hK.out _ _ HZS.out (fun _ => ?_)
        clear hK K'
        refine wpAnyH_ready (rs := [16]) (by kernel_rfl) (by simp) ?_
        refine AllReadyH.cons rfl (fun K' hK => ?_) AllReadyH.nil
        go_simp
        refine hK.out _ _ HZS.out (fun _ => ?_)
        clear hK K'
        refine wpAnyH_done (by kernel_rfl) ?_ _
        refine ⟨rfl, ⟨U5, c5, us5, A5, d5, A7, c7, X0.heap.size⟩, ?frc, r10_fin HG2.out HX8.out HWC8.out HBX8.out HLE6.out HCR.out HCL.out HPR7.out ?rwc ?flc ?a3c⟩
        case frc => unfold r10F; go_simp
        case rwc =>
          rcases HU7.out with h1 | h1
          · exact Or.inl h1
          · exact Or.inr (fun b o e => by
                obtain ⟨a1, a2⟩ := h1 b o e
                have h5 := HLTB.out
                exact ⟨a1, by have := HSZ7.out; omega, by show b ≠ X0.heap.size; omega⟩)
        case flc =>
          intro v hv
          rcases HUS7.out v hv with h1 | h1
          · exact Or.inl h1
          · exact Or.inr (fun b o e => by
                obtain ⟨a1, a2⟩ := h1 b o e
                have h5 := HLTB.out
                exact ⟨a1, by have := HSZ7.out; omega, by show b ≠ X0.heap.size; omega⟩)
        case a3c =>
          exact fun b o e => by
              have h1 := HA7.out b o e
              have h5 := HLTB.out
              have h6 := HWC8.out
              exact ⟨by show b ≠ X0.heap.size; omega, by omega⟩
    · go_wp2_with (fail)
      go_ret
      exact ⟨rfl, HB.out⟩
end Go.Proofs.Ytimmlffgokgekaa
