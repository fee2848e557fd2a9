/-
  Chapter 58: ArchiveKeeps: the walk.
-/
import Derived.Test.YtimmlffgokgekaaAwkM
import Derived.Test.YtimmlffgokgekaaHas58
import Derived.Test.YtimmlffgokgekaaArcQ
set_option linter.unusedSimpArgs false
set_option linter.unusedVariables false
namespace Go.Proofs.Ytimmlffgokgekaa
open Go.RowKit
set_option maxRecDepth 100000
set_option maxHeartbeats 20000000
theorem infoSl : (Try.prog.info? 22).map (fun i => (i.zero, i.size, i.bytes)) = some (some (.slice none 0 0), 1, 24) := by kernel_rfl
attribute [-simp] Try.isAgg39 Try.sizeOf39
def KpR (X : List Ent) (w : World) (iv : Value) (wr : World) : Prop := ∃ k : Nat, k ≤ X.length ∧ iv = .int .i64 k ∧ Below w.heap.size w wr
theorem blk_run {P : Program} {w : World} {b e N : Nat} {xs : List Value} (h : Blk w b e xs) (hn : xs.length = N) : ∀ n, Sem.run P (loadCellsFrom ⟨b, 0, none⟩ 0 N #[]) (w.drewN n) = .ok xs.toArray (w.drewN n) :=
  fun n => run_mid (fun j v hv => by rw [Nat.zero_add]; exact ((show Blk (w.drewN n) b e xs from h).cell j).trans hv) hn
theorem sliceAt4 {w : World} {s : Nat} {A1 A2 A3 A4 : Option Addr} {c1 c2 c3 c4 : Nat} {l1 l2 l3 l4 : List Ent} (hb : Blk w s 22 [.slice A1 l1.length c1, .slice A2 l2.length c2, .slice A3 l3.length c3, .slice A4 l4.length c4])
    (h1 : Rd entE 21 w w.heap.size A1 l1) (h2 : Rd entE 21 w w.heap.size A2 l2) (h3 : Rd entE 21 w w.heap.size A3 l3) (h4 : Rd entE 21 w w.heap.size A4 l4) : sliceAt w s [l1, l2, l3, l4] := by
  intro k l hk
  match k, hk with
  | 0, hk => simp at hk; subst hk; exact ⟨A1, c1, hb.cell 0, h1⟩
  | 1, hk => simp at hk; subst hk; exact ⟨A2, c2, hb.cell 1, h2⟩
  | 2, hk => simp at hk; subst hk; exact ⟨A3, c3, hb.cell 2, h3⟩
  | 3, hk => simp at hk; subst hk; exact ⟨A4, c4, hb.cell 3, h4⟩
  | k + 4, hk => simp at hk
theorem keep_cases (o p q : Option Ent) : (p = o ∧ q = o) ∨ (p = o ∧ q ≠ o) ∨ (p ≠ o ∧ q = o) ∨ (p ≠ o ∧ q ≠ o ∧ p = q) ∨ (p ≠ o ∧ q ≠ o ∧ p ≠ q) := by
  by_cases h1 : p = o <;> by_cases h2 : q = o <;> by_cases h3 : p = q <;> simp [h1, h2, h3]
theorem flE_iff {f g h : Fl} : flE [f, g, h] = 0 ↔ (chkA f.l = 0 ∧ chkA g.l = 0 ∧ chkA h.l = 0) := by
  unfold flE flE flE flE
  by_cases h1 : chkA f.l = 0 <;> by_cases h2 : chkA g.l = 0 <;> by_cases h3 : chkA h.l = 0 <;> simp [h1, h2, h3]
theorem neq_opt (p q : Option Ent) (hp : ∀ e, p = some e → e.id ≠ 0) (hq : ∀ e, q = some e → e.id ≠ 0) (w : World) : (binOp .neq 39 (.agg (entE (p.getD zEnt)).toArray) (.agg (entE (q.getD zEnt)).toArray)).run Try.prog w = .ok (.bool (!decide (p = q))) w := by
  rw [ent_neq]
  congr 3
  rw [decide_eq_decide]
  exact getD_eq hp hq
theorem law_keeps (A1 A2 A3 : Option Addr) (c1 c2 c3 : Nat) (b a r : List Ent) (w : World) (hb : b.length ≤ c1) (hbc : c1 ≤ 9223372036854775807) (ha : a.length ≤ c2) (hac : c2 ≤ 9223372036854775807) (hr : r.length ≤ c3) (hrc : c3 ≤ 9223372036854775807)
    (hsb : ∀ x ∈ b, x.sc.size ≤ 9223372036854775807) (hsa : ∀ x ∈ a, x.sc.size ≤ 9223372036854775807) (hsr : ∀ x ∈ r, x.sc.size ≤ 9223372036854775807) (hdb : Rd entE 21 w w.heap.size A1 b) (hda : Rd entE 21 w w.heap.size A2 a) (hdr : Rd entE 21 w w.heap.size A3 r) :
    Calls Try.prog 5 #[.slice A1 b.length c1, .slice A2 a.length c2, .slice A3 r.length c3] w fun e w' => e = .returned (.bool true) ∧ Below w.heap.size w w' := by
  have HSB := Lib.hid hsb
  have HSA := Lib.hid hsa
  have HSR := Lib.hid hsr
  have HDB := Lib.hid hdb
  have HDA := Lib.hid hda
  have HDR := Lib.hid hdr
  clear hsb hsa hsr hdb hda hdr
  go_enter Try.func5, Try.ntmps5
  go_wp2_with (fail)
  refine (awake_p w).mono ?_
  rintro e w1 ⟨rfl, hb1⟩
  have HB1 := Lib.hid hb1
  clear hb1
  go_wp2_with (fail)
  refine (few_p b A1 c1 w1 hb hbc HSB.out (HDB.out.to HB1.out)).mono ?_
  rintro e w2 ⟨⟨v, rfl, ho⟩, hb2⟩
  obtain ⟨B1, d1, rfl, hrd, hxx⟩ := OwnL.rd entE_len ho
  clear hxx
  have HB2 := Lib.hid (cur_step1 HB1.out hb2)
  have HR12 := Lib.hid hrd
  clear ho hrd hb2
  go_wp2_with (fail)
  refine (few_p a A2 c2 w2 ha hac HSA.out (HDA.out.to HB2.out)).mono ?_
  rintro e w3 ⟨⟨v, rfl, ho⟩, hb3⟩
  obtain ⟨B2, d2, rfl, hrd, hxx⟩ := OwnL.rd entE_len ho
  clear hxx
  have HB3 := Lib.hid (cur_step1 HB2.out hb3)
  have HR13 := Lib.hid (HR12.out.to hb3)
  have HR23 := Lib.hid hrd
  clear ho hrd hb3
  go_wp2_with (fail)
  refine (few_p r A3 c3 w3 hr hrc HSR.out (HDR.out.to HB3.out)).mono ?_
  rintro e w4 ⟨⟨v, rfl, ho⟩, hb4⟩
  obtain ⟨B3, d3, rfl, hrd, hxx⟩ := OwnL.rd entE_len ho
  clear hxx
  have HB4 := Lib.hid (cur_step1 HB3.out hb4)
  have HR14 := Lib.hid (HR13.out.to hb4)
  have HR24 := Lib.hid (HR23.out.to hb4)
  have HR34 := Lib.hid hrd
  clear ho hrd hb4
  have HS1 := Lib.hid (fewA_sc b)
  have HS2 := Lib.hid (fewA_sc a)
  have HS3 := Lib.hid (fewA_sc r)
  have HL1 := Lib.hid (fewA_len b)
  have HL2 := Lib.hid (fewA_len a)
  have HL3 := Lib.hid (fewA_len r)
  generalize fewA b = B at HR14 HS1 HL1 ⊢
  generalize fewA a = L at HR24 HS2 HL2 ⊢
  generalize fewA r = R at HR34 HS3 HL3 ⊢
  clear HR12 HR13 HR23 HDB HDA HDR HSB HSA HSR HB1 HB2 HB3
  obtain ⟨fl, hfl⟩ : ∃ fl : List Fl, [⟨B1, d1, B⟩, ⟨B2, d2, L⟩, ⟨B3, d3, R⟩] = fl := ⟨_, rfl⟩
  have HLEN := Lib.hid (show (flI fl).length ≤ 400 by rw [← hfl]; simp [flI]; have := HL1.out; have := HL2.out; have := HL3.out; omega)
  have HSC := Lib.hid (show ∀ f ∈ fl, ∀ x ∈ f.l, x.sc.size ≤ 9223372036854775807 by
    intro f hf x hx
    rw [← hfl] at hf
    simp only [List.mem_cons, List.not_mem_nil, or_false] at hf
    rcases hf with rfl | rfl | rfl
    · exact Nat.le_trans (HS1.out x hx) (by decide)
    · exact Nat.le_trans (HS2.out x hx) (by decide)
    · exact Nat.le_trans (HS3.out x hx) (by decide))
  have HRD := Lib.hid (show ∀ f ∈ fl, Rd entE 21 w4 w4.heap.size f.a f.l by
    intro f hf
    rw [← hfl] at hf
    simp only [List.mem_cons, List.not_mem_nil, or_false] at hf
    rcases hf with rfl | rfl | rfl
    · exact HR14.out
    · exact HR24.out
    · exact HR34.out)
  have HIL := Lib.hid (show (idsU B L R).length ≤ 36 from Nat.le_trans (idsU_len B L R) (by have := HL1.out; have := HL2.out; have := HL3.out; omega))
  have HML := Lib.hid (show (mOut B L R (idsU B L R)).length ≤ 1000000 from Nat.le_trans (mOut_len _ _ _ _) (Nat.le_trans HIL.out (by decide)))
  have HCL := Lib.hid (show (mCl B L R (idsU B L R)).length ≤ 1000000 from Nat.le_trans (mCl_len _ _ _ _) (Nat.le_trans HIL.out (by decide)))
  have HFL := Lib.hid hfl.symm
  clear hfl
  obtain ⟨fm, hfm⟩ : ∃ fm : List Fl, [⟨B1, d1, B⟩, ⟨B3, d3, R⟩, ⟨B2, d2, L⟩] = fm := ⟨_, rfl⟩
  have HLEN2 := Lib.hid (show (flI fm).length ≤ 400 by rw [← hfm]; simp [flI]; have := HL1.out; have := HL2.out; have := HL3.out; omega)
  have HSC2 := Lib.hid (show ∀ f ∈ fm, ∀ x ∈ f.l, x.sc.size ≤ 9223372036854775807 by
    intro f hf x hx
    rw [← hfm] at hf
    simp only [List.mem_cons, List.not_mem_nil, or_false] at hf
    rcases hf with rfl | rfl | rfl
    · exact Nat.le_trans (HS1.out x hx) (by decide)
    · exact Nat.le_trans (HS3.out x hx) (by decide)
    · exact Nat.le_trans (HS2.out x hx) (by decide))
  have HRDM := Lib.hid (show ∀ w9, Below w4.heap.size w4 w9 → ∀ f ∈ fm, Rd entE 21 w9 w9.heap.size f.a f.l by
    intro w9 hb9 f hf
    rw [← hfm] at hf
    simp only [List.mem_cons, List.not_mem_nil, or_false] at hf
    rcases hf with rfl | rfl | rfl
    · exact HR14.out.to hb9
    · exact HR34.out.to hb9
    · exact HR24.out.to hb9)
  have HFM := Lib.hid hfm.symm
  have HFF := Lib.hid (show flE fl = 0 ↔ flE fm = 0 by
    rw [HFL.out, HFM.out, flE_iff, flE_iff]
    exact ⟨fun h => ⟨h.1, h.2.2, h.2.1⟩, fun h => ⟨h.1, h.2.2, h.2.1⟩⟩)
  have HGD := Lib.hid (show flE fl = 0 → GoodA B ∧ GoodA L ∧ GoodA R by
    intro h
    rw [HFL.out, flE_iff] at h
    exact ⟨goodA_of h.1, goodA_of h.2.1, goodA_of h.2.2⟩)
  clear hfm
  go_wp2_with (fail)
  refine merge_e fl B1 B2 B3 d1 d2 d3 B L R HFL.out w4 HLEN.out HSC.out HRD.out _ ?bad ?good
  case bad =>
    intro hne w5 hb5
    have HNE := Lib.hid hne
    have HB5 := Lib.hid (cur_step1 HB4.out hb5)
    have HRD5 := Lib.hid (HRDM.out w5 hb5)
    obtain ⟨ev, hev⟩ : ∃ ev, flE fl = ev := ⟨_, rfl⟩
    have g1 : (ev == 0) = false := by rw [← hev]; simpa using hne
    have g2 : (ev != 0) = true := by rw [← hev]; simpa using hne
    rw [hev]
    clear hne hb5 hev
    go_wp2_with (fail)
    refine merge_e fm B1 B3 B2 d1 d3 d2 B R L HFM.out w5 HLEN2.out HSC2.out HRD5.out _ ?bad2 (fun h => absurd (HFF.out.2 h) HNE.out)
    intro hne w6 hb6
    have HB6 := Lib.hid (cur_step1 HB5.out hb6)
    obtain ⟨ev2, hev⟩ : ∃ ev, flE fm = ev := ⟨_, rfl⟩
    have g3 : (ev2 == 0) = false := by rw [← hev]; simpa using hne
    rw [hev]
    clear hb6 hne hev
    go_wp2_with (fail)
    refine (eq_ent none none 0 0 [] [] w6 (by decide) (by decide) Rd.nil_ Rd.nil_).mono ?_
    rintro e w7 ⟨rfl, hb7⟩
    rw [show decide (([] : List Ent) = []) = true from decide_eq_true rfl]
    have HB7 := Lib.hid (cur_step1 HB6.out hb7)
    clear hb7
    go_wp2_with (fail)
    refine (eq_cl none none 0 0 [] [] w7 (by decide) (by decide) Rd.nil_ Rd.nil_).mono ?_
    rintro e w8 ⟨rfl, hb8⟩
    rw [show decide (([] : List Int) = []) = true from decide_eq_true rfl]
    have HB8 := Lib.hid (cur_step1 HB7.out hb8)
    clear hb8
    go_wp2_with (fail)
    go_ret
    exact ⟨rfl, HB8.out⟩
  case good =>
    intro h0 v1 v2 w5 ho1 ho2 hb5
    have HNE := Lib.hid h0
    obtain ⟨GB, GL, GR⟩ := HGD.out h0
    have HGB := Lib.hid GB
    have HGL := Lib.hid GL
    have HGR := Lib.hid GR
    obtain ⟨M1, m1, rfl, hr1, hxx⟩ := OwnL.rd entE_len ho1
    clear hxx
    obtain ⟨M2, m2, rfl, hr2, hxx⟩ := OwnL.rd inE_len ho2
    clear hxx
    have HM5 := Lib.hid hr1
    have HC5 := Lib.hid hr2
    have HB5 := Lib.hid (cur_step1 HB4.out hb5)
    have HW5 := Lib.hid hb5
    have HRD5 := Lib.hid (HRDM.out w5 hb5)
    clear h0 hb5 ho1 ho2 hr1 hr2 GB GL GR
    go_wp2_with (fail)
    refine merge_e fm B1 B3 B2 d1 d3 d2 B R L HFM.out w5 HLEN2.out HSC2.out HRD5.out _ (fun h => absurd (HFF.out.1 HNE.out) h) ?_
    intro _ v1 v2 w6 ho1 ho2 hb6
    rw [show mOut B R L (idsU B R L) = mOut B L R (idsU B L R) by rw [mOut_comm, idsU_comm]] at ho1
    rw [show mCl B R L (idsU B R L) = mCl B L R (idsU B L R) by rw [mCl_comm, idsU_comm]] at ho2
    obtain ⟨N1, n1, rfl, hr1, hxx⟩ := OwnL.rd entE_len ho1
    clear hxx
    obtain ⟨N2, n2, rfl, hr2, hxx⟩ := OwnL.rd inE_len ho2
    clear hxx
    have HM6 := Lib.hid (HM5.out.to hb6)
    have HC6 := Lib.hid (HC5.out.to hb6)
    have HN6 := Lib.hid hr1
    have HD6 := Lib.hid hr2
    have HB6 := Lib.hid (cur_step1 HB5.out hb6)
    have HW6 := Lib.hid (cur_step1 HW5.out hb6)
    clear hb6 ho1 ho2 hr1 hr2
    have HMF := Lib.hid (fnd_merge HGB.out HGL.out HGR.out)
    have HMC := Lib.hid (cl_merge B L R)
    have HMG := Lib.hid (good_merge HGB.out HGL.out HGR.out)
    have HMB := Lib.hid (show (mOut B L R (idsU B L R)).length ≤ 36 from Nat.le_trans (mOut_len _ _ _ _) HIL.out)
    have HMS := Lib.hid (show ∀ x ∈ mOut B L R (idsU B L R), x.sc.size ≤ 20 from fun x hx => by
      rcases mOut_mem hx with h | h | h
      · exact HS1.out x h
      · exact HS2.out x h
      · exact HS3.out x h)
    generalize mOut B L R (idsU B L R) = M at HM6 HN6 HML HMF HMG HMB HMS ⊢
    generalize mCl B L R (idsU B L R) = C at HC6 HD6 HCL HMC ⊢
    go_wp2_with (fail)
    refine (eq_ent M1 N1 m1 n1 M M w6 HML.out HML.out HM6.out HN6.out).mono ?_
    rintro e w7 ⟨rfl, hb7⟩
    rw [show decide (M = M) = true from decide_eq_true rfl]
    have HB7 := Lib.hid (cur_step1 HB6.out hb7)
    have HW7 := Lib.hid (cur_step1 HW6.out hb7)
    have HM7 := Lib.hid (HM6.out.to hb7)
    have HC7 := Lib.hid (HC6.out.to hb7)
    have HD7 := Lib.hid (HD6.out.to hb7)
    clear hb7
    go_wp2_with (fail)
    refine (eq_cl M2 N2 m2 n2 C C w7 HCL.out HCL.out HC7.out HD7.out).mono ?_
    rintro e w8 ⟨rfl, hb8⟩
    rw [show decide (C = C) = true from decide_eq_true rfl]
    have HB8 := Lib.hid (cur_step1 HB7.out hb8)
    have HW8 := Lib.hid (cur_step1 HW7.out hb8)
    have HM8 := Lib.hid (HM7.out.to hb8)
    have HC8 := Lib.hid (HC7.out.to hb8)
    clear hb8 HN6 HD6 HD7 HM5 HM6 HM7 HC5 HC6 HC7
    go_upto_region 10 with (fail)
    refine wp_region_lit ?_
    (refine wpList_step (fun K hK => ?_); go_simp; refine hK _ _ ?_; clear hK K)
    (refine wpList_step (fun K hK => ?_); go_simp; refine hK _ _ ?_; clear hK K)
    (refine wpList_step (fun K hK => ?_); go_simp; refine hK _ _ ?_; clear hK K)
    (refine wpList_step (fun K hK => ?_); go_simp; refine hK _ _ ?_; clear hK K)
    obtain ⟨it, hit, hi0, hi1, _⟩ := info_parts infoSl
    refine wpList_buildSlice rfl _ 22 4 _ rfl #[.slice B1 B.length d1, .slice B2 L.length d2, .slice B3 R.length d3, .slice M1 M.length m1] it (.slice none 0 0) Try.underlying75 hit hi0 (by rw [hi1]; decide) (by rw [hi1]; decide) (by rw [hi1]; kernel_rfl) ?_
    clear hit hi0 hi1
    obtain ⟨W9, hW9⟩ : ∃ y, w8.alloc (.cells #[.slice B1 B.length d1, .slice B2 L.length d2, .slice B3 R.length d3, .slice M1 M.length m1] 22) = y := ⟨_, rfl⟩
    have hb9 : Below w8.heap.size w8 W9 := by rw [← hW9]; exact cur_new _ _
    have HK9 := Lib.hid (show Blk W9 w8.heap.size 22 [.slice B1 B.length d1, .slice B2 L.length d2, .slice B3 R.length d3, .slice M1 M.length m1] by rw [← hW9]; exact Blk.new _ _ _)
    have HB9 := Lib.hid (cur_step1 HB8.out hb9)
    have HW9 := Lib.hid (cur_step1 HW8.out hb9)
    have HM9 := Lib.hid (HM8.out.to hb9)
    have HC9 := Lib.hid (HC8.out.to hb9)
    rw [hW9]
    clear hW9 hb9 HM8 HC8
    have HAT := Lib.hid (sliceAt4 HK9.out (HR14.out.to HW9.out) (HR24.out.to HW9.out) (HR34.out.to HW9.out) HM9.out)
    have HXL := Lib.hid (show [B, L, R, M].flatten.length ≤ 10000 by simp; have := HL1.out; have := HL2.out; have := HL3.out; have := HMB.out; omega)
    have HXM := Lib.hid (show ∀ x ∈ [B, L, R, M].flatten, x ∈ B ∨ x ∈ L ∨ x ∈ R ∨ x ∈ M by simp)
    have hsl := HK9.out.lt
    by_cases hz : [B, L, R, M].flatten.length = 0
    · go_wp2_with (fail)
      refine (concat_z w8.heap.size [B, L, R, M] 4 W9 rfl (by decide) hsl hz HAT.out).mono ?_
      rintro e w10 ⟨rfl, hb10⟩
      have HBX := Lib.hid (cur_step1 HB9.out hb10)
      have HMX := Lib.hid (HM9.out.to hb10)
      have HCX := Lib.hid (HC9.out.to hb10)
      have hd : ((0 : Int) < 0) = False := by simp
      clear hb10 hz
      go_wp2_with (fail)
      go_loopw [84] (KpR [] w10) (fun i _ => 0 - (intOf i).toNat)
      case atStart => exact ⟨0, by decide, rfl, Below.refl _ _⟩
      case round =>
        obtain ⟨k, hk, rfl, hb⟩ := hrel
        have hk0 : k = 0 := by simpa using hk
        subst hk0
        have HBW := Lib.hid hb
        clear hb
        go_wp2_with (fail)
        refine (chka_p M M1 m1 wr HML.out (fun x hx => Nat.le_trans (HMS.out x hx) (by decide)) (HMX.out.to HBW.out)).mono ?_
        rintro e w11 ⟨rfl, hb11⟩
        rw [show chkA M = 0 from HMG.out.chk (by have := HMB.out; omega)]
        go_wp2_with (fail)
        go_ret
        exact ⟨rfl, cur_step1 (cur_step1 HBX.out HBW.out) hb11⟩
    · go_wp2_with (fail)
      refine (concat_f w8.heap.size [B, L, R, M] 4 W9 rfl (by decide) hsl (by omega) HXL.out HAT.out).mono ?_
      rintro e w10 ⟨gX, cX, rfl, hoX, hb10⟩
      have HBX := Lib.hid (cur_step1 HB9.out hb10)
      have HMX := Lib.hid (HM9.out.to hb10)
      have HCX := Lib.hid (HC9.out.to hb10)
      have HW10 := Lib.hid (cur_step1 HW9.out hb10)
      obtain ⟨AX, cX', eX, hrX, hxx⟩ := OwnL.rd entE_len hoX
      injection eX with e1 e2 e3
      subst e1 e3
      have HXR := Lib.hid hrX
      clear hxx hrX hoX hb10 hz hsl HAT HK9 HM9 HC9
      generalize [B, L, R, M].flatten = X at HXR HXL HXM ⊢
      go_wp2_with (fail)
      go_loopw [84] (KpR X w10) (fun i _ => X.length - (intOf i).toNat)
      case atStart => exact ⟨0, Nat.zero_le _, rfl, Below.refl _ _⟩
      case round =>
        obtain ⟨k, hk, rfl, hb⟩ := hrel
        have HBW := Lib.hid hb
        clear hb
        by_cases hkl : k < X.length
        · skip
          obtain ⟨x, hx⟩ : ∃ x, X[k]? = some x := ⟨_, List.getElem?_eq_getElem hkl⟩
          have hk10 : k < 10000 := Nat.lt_of_lt_of_le hkl HXL.out
          obtain ⟨b2, off2, hAX, hb2l, hc2⟩ := rd_at HXR.out HBW.out hx
          injection hAX with hAX
          injection hAX with h1 h2 _
          subst h1 h2
          rw [Nat.zero_add] at hc2
          have HRA := Lib.hid hc2
          obtain ⟨o, ho⟩ : ∃ o, fnd B x.id = o := ⟨_, rfl⟩
          obtain ⟨p, hp⟩ : ∃ o, fnd L x.id = o := ⟨_, rfl⟩
          obtain ⟨q, hq⟩ : ∃ o, fnd R x.id = o := ⟨_, rfl⟩
          obtain ⟨g, hg⟩ : ∃ o, fnd M x.id = o := ⟨_, rfl⟩
          have HGO := Lib.hid (show g = tkn o p q by rw [← hg, HMF.out]; unfold tkI; rw [ho, hp, hq])
          have HCC := Lib.hid (show x.id ∈ C ↔ cls o p q = true by rw [HMC.out]; unfold clI; rw [ho, hp, hq])
          have HPO := Lib.hid (show ∀ e, o = some e → e.id ≠ 0 from fun e he => HGB.out.pos (i := x.id) (ho.trans he))
          have HPP := Lib.hid (show ∀ e, p = some e → e.id ≠ 0 from fun e he => HGL.out.pos (i := x.id) (hp.trans he))
          have HPQ := Lib.hid (show ∀ e, q = some e → e.id ≠ 0 from fun e he => HGR.out.pos (i := x.id) (hq.trans he))
          have HO := Lib.hid ho
          have HP := Lib.hid hp
          have HQ := Lib.hid hq
          have HG := Lib.hid hg
          clear hc2 hx ho hp hq hg
          have hA0 : ∀ w, Sem.run Try.prog (isAgg 39) w = .ok true w := fun w => Try.isAgg39 w
          have hZ0 : ∀ w, Sem.run Try.prog (sizeOf 39) w = .ok 21 w := fun w => Try.sizeOf39 w
          obtain ⟨V0, hV0⟩ : ∃ y, wr.alloc (.cells (entE x).toArray 39) = y := ⟨_, rfl⟩
          have hb0 : Below wr.heap.size wr V0 := by rw [← hV0]; exact cur_new _ _
          have HX0 := Lib.hid (show Blk V0 wr.heap.size 39 (entE x) by rw [← hV0]; exact Blk.new wr _ _)
          have S0 := Lib.hid hV0
          have HV0 := Lib.hid (cur_step1 HBW.out hb0)
          have e0 : V0.cell? ⟨wr.heap.size, 0, none⟩ = some (.int .i64 x.id) := by rw [HX0.out.cell]; rfl
          clear hV0 hb0
          go_wp2_with (first | (refine wpList_load_mid rfl 39 _ rfl gX (k * 21) (by rfl) (entE x) _ HRA.out (by rfl) (by rfl) ent_info ?_) | (refine wpList_storeNew rfl _ _ 39 rfl _ (entE x).toArray ent_info (by rfl) (by rfl) rfl (ent_one _) ?_; rw [S0.out]))
          refine (has_p B B1 d1 x.id V0 (by have := HL1.out; omega) ((HR14.out.to HW10.out).to HV0.out)).mono ?_
          rw [HO.out]
          rintro e u1 ⟨rfl, hu1⟩
          obtain ⟨V1, hV1⟩ : ∃ y, u1.alloc (.cells (entE (o.getD zEnt)).toArray 39) = y := ⟨_, rfl⟩
          have hb1 : Below V0.heap.size V0 V1 := by rw [← hV1]; exact cur_step1 hu1 (cur_new _ _)
          have HV1 := Lib.hid (cur_step1 HV0.out hb1)
          have HNo1 := Lib.hid (show Blk V1 u1.heap.size 39 (entE (o.getD zEnt)) by rw [← hV1]; exact Blk.new _ _ _)
          have HX1 := Lib.hid (HX0.out.to hb1)
          have S1 := Lib.hid hV1
          have e1 : V1.cell? ⟨wr.heap.size, 0, none⟩ = some (.int .i64 x.id) := by rw [HX1.out.cell]; rfl
          clear hV1 hb1 hu1 e0
          go_wp2_with (refine wpList_storeNew rfl _ _ 39 rfl _ (entE (o.getD zEnt)).toArray ent_info (by rfl) (by rfl) rfl (ent_one _) ?_; rw [S1.out])
          refine (has_p L B2 d2 x.id V1 (by have := HL2.out; omega) ((HR24.out.to HW10.out).to HV1.out)).mono ?_
          rw [HP.out]
          rintro e u2 ⟨rfl, hu2⟩
          obtain ⟨V2, hV2⟩ : ∃ y, u2.alloc (.cells (entE (p.getD zEnt)).toArray 39) = y := ⟨_, rfl⟩
          have hb2 : Below V1.heap.size V1 V2 := by rw [← hV2]; exact cur_step1 hu2 (cur_new _ _)
          have HV2 := Lib.hid (cur_step1 HV1.out hb2)
          have HNp2 := Lib.hid (show Blk V2 u2.heap.size 39 (entE (p.getD zEnt)) by rw [← hV2]; exact Blk.new _ _ _)
          have HX2 := Lib.hid (HX1.out.to hb2)
          have HNo2 := Lib.hid (HNo1.out.to hb2)
          have S2 := Lib.hid hV2
          have e2 : V2.cell? ⟨wr.heap.size, 0, none⟩ = some (.int .i64 x.id) := by rw [HX2.out.cell]; rfl
          clear hV2 hb2 hu2 e1
          go_wp2_with (refine wpList_storeNew rfl _ _ 39 rfl _ (entE (p.getD zEnt)).toArray ent_info (by rfl) (by rfl) rfl (ent_one _) ?_; rw [S2.out])
          refine (has_p R B3 d3 x.id V2 (by have := HL3.out; omega) ((HR34.out.to HW10.out).to HV2.out)).mono ?_
          rw [HQ.out]
          rintro e u3 ⟨rfl, hu3⟩
          obtain ⟨V3, hV3⟩ : ∃ y, u3.alloc (.cells (entE (q.getD zEnt)).toArray 39) = y := ⟨_, rfl⟩
          have hb3 : Below V2.heap.size V2 V3 := by rw [← hV3]; exact cur_step1 hu3 (cur_new _ _)
          have HV3 := Lib.hid (cur_step1 HV2.out hb3)
          have HNq3 := Lib.hid (show Blk V3 u3.heap.size 39 (entE (q.getD zEnt)) by rw [← hV3]; exact Blk.new _ _ _)
          have HX3 := Lib.hid (HX2.out.to hb3)
          have HNo3 := Lib.hid (HNo2.out.to hb3)
          have HNp3 := Lib.hid (HNp2.out.to hb3)
          have S3 := Lib.hid hV3
          have e3 : V3.cell? ⟨wr.heap.size, 0, none⟩ = some (.int .i64 x.id) := by rw [HX3.out.cell]; rfl
          clear hV3 hb3 hu3 e2
          go_wp2_with (refine wpList_storeNew rfl _ _ 39 rfl _ (entE (q.getD zEnt)).toArray ent_info (by rfl) (by rfl) rfl (ent_one _) ?_; rw [S3.out])
          refine (has_p M M1 m1 x.id V3 (by have := HMB.out; omega) ((HMX.out).to HV3.out)).mono ?_
          rw [HG.out]
          rintro e u4 ⟨rfl, hu4⟩
          obtain ⟨V4, hV4⟩ : ∃ y, u4.alloc (.cells (entE (g.getD zEnt)).toArray 39) = y := ⟨_, rfl⟩
          have hb4 : Below V3.heap.size V3 V4 := by rw [← hV4]; exact cur_step1 hu4 (cur_new _ _)
          have HV4 := Lib.hid (cur_step1 HV3.out hb4)
          have HNg4 := Lib.hid (show Blk V4 u4.heap.size 39 (entE (g.getD zEnt)) by rw [← hV4]; exact Blk.new _ _ _)
          have HX4 := Lib.hid (HX3.out.to hb4)
          have HNo4 := Lib.hid (HNo3.out.to hb4)
          have HNp4 := Lib.hid (HNp3.out.to hb4)
          have HNq4 := Lib.hid (HNq3.out.to hb4)
          have S4 := Lib.hid hV4
          have e4 : V4.cell? ⟨wr.heap.size, 0, none⟩ = some (.int .i64 x.id) := by rw [HX4.out.cell]; rfl
          clear hV4 hb4 hu4 e3
          go_wp2_with (refine wpList_storeNew rfl _ _ 39 rfl _ (entE (g.getD zEnt)).toArray ent_info (by rfl) (by rfl) rfl (ent_one _) ?_; rw [S4.out])
          rcases keep_cases o p q with ⟨h1, h2⟩ | ⟨h1, h2⟩ | ⟨h1, h2⟩ | ⟨h1, h2, h3⟩ | ⟨h1, h2, h3⟩
          · skip
            have k1 : ∀ w : World, (binOp .neq 39 (.agg (entE (p.getD zEnt)).toArray) (.agg (entE (o.getD zEnt)).toArray)).run Try.prog w = .ok (.bool false) w := fun w => by rw [neq_opt p o HPP.out HPO.out]; simp [h1]
            have k2 : ∀ w : World, (binOp .neq 39 (.agg (entE (q.getD zEnt)).toArray) (.agg (entE (o.getD zEnt)).toArray)).run Try.prog w = .ok (.bool false) w := fun w => by rw [neq_opt q o HPQ.out HPO.out]; simp [h2]
            have f1 : p.isSome = o.isSome := by rw [h1]
            have f2 : q.isSome = o.isSome := by rw [h2]
            have hgt : g = q := by rw [HGO.out]; unfold tkn; rw [if_pos h1]
            have k4 : ∀ w : World, (binOp .neq 39 (.agg (entE (g.getD zEnt)).toArray) (.agg (entE (q.getD zEnt)).toArray)).run Try.prog w = .ok (.bool false) w := fun w => by rw [neq_opt g q (by rw [hgt]; exact HPQ.out) HPQ.out]; simp [hgt]
            have f4 : g.isSome = o.isSome := by rw [hgt, h2]
            have hcl : decide (x.id ∈ C) = false := decide_eq_false (fun h => by have := HCC.out.1 h; unfold cls at this; simp [h1] at this)
            have HCLQ := Lib.hid hcl
            clear hcl hgt
            have hgd := guard_en
            obtain ⟨N, hN⟩ : ∃ N : Nat, 21 = N := ⟨_, rfl⟩
            have hZ : ∀ w, Sem.run Try.prog (sizeOf 39) w = .ok N w := fun w => by rw [← hN]; exact Try.sizeOf39 w
            have lo := blk_run (P := Try.prog) (N := N) HNo4.out (by rw [entE_len]; exact hN)
            have co : V4.cell? ⟨u1.heap.size, 0, none⟩ = some (.int .i64 (o.getD zEnt).id) := by rw [HNo4.out.cell]; rfl
            have lp := blk_run (P := Try.prog) (N := N) HNp4.out (by rw [entE_len]; exact hN)
            have cp : V4.cell? ⟨u2.heap.size, 0, none⟩ = some (.int .i64 (p.getD zEnt).id) := by rw [HNp4.out.cell]; rfl
            have lq := blk_run (P := Try.prog) (N := N) HNq4.out (by rw [entE_len]; exact hN)
            have cq : V4.cell? ⟨u3.heap.size, 0, none⟩ = some (.int .i64 (q.getD zEnt).id) := by rw [HNq4.out.cell]; rfl
            clear hZ0 hN h1 h2
            go_wp2_with (fail)
            go_quiet (fail)
            have e5 : (V4.drewN nq).cell? ⟨wr.heap.size, 0, none⟩ = some (.int .i64 x.id) := e4
            have H5o := Lib.hid (show Blk (V4.drewN nq) u1.heap.size 39 (entE (o.getD zEnt)) from HNo4.out)
            have H5p := Lib.hid (show Blk (V4.drewN nq) u2.heap.size 39 (entE (p.getD zEnt)) from HNp4.out)
            have H5q := Lib.hid (show Blk (V4.drewN nq) u3.heap.size 39 (entE (q.getD zEnt)) from HNq4.out)
            have H5g := Lib.hid (show Blk (V4.drewN nq) u4.heap.size 39 (entE (g.getD zEnt)) from HNg4.out)
            have HV5 := Lib.hid (below_drewN HV4.out nq)
            clear lo lp lq co cp cq hZ e4
            generalize V4.drewN nq = V5 at e5 H5o H5p H5q H5g HV5 ⊢
            go_wp2_with (fail)
            refine (contains_p C M2 m2 x.id V5 HCL.out (HCX.out.to HV5.out)).mono ?_
            rw [HCLQ.out]
            rintro e u5 ⟨rfl, hu5⟩
            have HKo := Lib.hid (H5o.out.to hu5)
            have HKp := Lib.hid (H5p.out.to hu5)
            have HKq := Lib.hid (H5q.out.to hu5)
            have HKg := Lib.hid (H5g.out.to hu5)
            have HV6 := Lib.hid (cur_step1 HV5.out hu5)
            clear hu5 e5
            go_upto_region 19 with (fail)
            refine wp_region_lit ?_
            (refine wpList_step (fun K hK => ?_); go_simp; refine hK _ _ ?_; clear hK K)
            (refine wpList_step (fun K hK => ?_); go_simp; refine hK _ _ ?_; clear hK K)
            refine wpList_load_g (by rfl) 39 _ rfl u4.heap.size (by rfl) 39 (entE (g.getD zEnt)).toArray (0, 0) _ HKg.out Try.underlying39 rfl ent_info ?_
            refine wpList_load_g (by rfl) 39 _ rfl u3.heap.size (by rfl) 39 (entE (q.getD zEnt)).toArray (0, 0) _ HKq.out Try.underlying39 rfl ent_info ?_
            (refine wpList_step (fun K hK => ?_); go_simp; refine hK _ _ ?_; clear hK K)
            go_wp2_with (fail)
            exact ⟨⟨k + 1, hkl, rfl, HV6.out⟩, by show X.length - (k + 1) < X.length - k; omega⟩
          · skip
            have k1 : ∀ w : World, (binOp .neq 39 (.agg (entE (p.getD zEnt)).toArray) (.agg (entE (o.getD zEnt)).toArray)).run Try.prog w = .ok (.bool false) w := fun w => by rw [neq_opt p o HPP.out HPO.out]; simp [h1]
            have k2 : ∀ w : World, (binOp .neq 39 (.agg (entE (q.getD zEnt)).toArray) (.agg (entE (o.getD zEnt)).toArray)).run Try.prog w = .ok (.bool true) w := fun w => by rw [neq_opt q o HPQ.out HPO.out]; simp [h2]
            have f1 : p.isSome = o.isSome := by rw [h1]
            have hgt : g = q := by rw [HGO.out]; unfold tkn; rw [if_pos h1]
            have k4 : ∀ w : World, (binOp .neq 39 (.agg (entE (g.getD zEnt)).toArray) (.agg (entE (q.getD zEnt)).toArray)).run Try.prog w = .ok (.bool false) w := fun w => by rw [neq_opt g q (by rw [hgt]; exact HPQ.out) HPQ.out]; simp [hgt]
            have f4 : g.isSome = q.isSome := by rw [hgt]
            have hcl : decide (x.id ∈ C) = false := decide_eq_false (fun h => by have := HCC.out.1 h; unfold cls at this; simp [h1] at this)
            have HCLQ := Lib.hid hcl
            clear hcl hgt
            have hgd := guard_en
            obtain ⟨N, hN⟩ : ∃ N : Nat, 21 = N := ⟨_, rfl⟩
            have hZ : ∀ w, Sem.run Try.prog (sizeOf 39) w = .ok N w := fun w => by rw [← hN]; exact Try.sizeOf39 w
            have lo := blk_run (P := Try.prog) (N := N) HNo4.out (by rw [entE_len]; exact hN)
            have co : V4.cell? ⟨u1.heap.size, 0, none⟩ = some (.int .i64 (o.getD zEnt).id) := by rw [HNo4.out.cell]; rfl
            have lp := blk_run (P := Try.prog) (N := N) HNp4.out (by rw [entE_len]; exact hN)
            have cp : V4.cell? ⟨u2.heap.size, 0, none⟩ = some (.int .i64 (p.getD zEnt).id) := by rw [HNp4.out.cell]; rfl
            have lq := blk_run (P := Try.prog) (N := N) HNq4.out (by rw [entE_len]; exact hN)
            have cq : V4.cell? ⟨u3.heap.size, 0, none⟩ = some (.int .i64 (q.getD zEnt).id) := by rw [HNq4.out.cell]; rfl
            clear hZ0 hN h1 h2
            go_wp2_with (fail)
            go_quiet (fail)
            have e5 : (V4.drewN nq).cell? ⟨wr.heap.size, 0, none⟩ = some (.int .i64 x.id) := e4
            have H5o := Lib.hid (show Blk (V4.drewN nq) u1.heap.size 39 (entE (o.getD zEnt)) from HNo4.out)
            have H5p := Lib.hid (show Blk (V4.drewN nq) u2.heap.size 39 (entE (p.getD zEnt)) from HNp4.out)
            have H5q := Lib.hid (show Blk (V4.drewN nq) u3.heap.size 39 (entE (q.getD zEnt)) from HNq4.out)
            have H5g := Lib.hid (show Blk (V4.drewN nq) u4.heap.size 39 (entE (g.getD zEnt)) from HNg4.out)
            have HV5 := Lib.hid (below_drewN HV4.out nq)
            clear lo lp lq co cp cq hZ e4
            generalize V4.drewN nq = V5 at e5 H5o H5p H5q H5g HV5 ⊢
            go_wp2_with (fail)
            refine (contains_p C M2 m2 x.id V5 HCL.out (HCX.out.to HV5.out)).mono ?_
            rw [HCLQ.out]
            rintro e u5 ⟨rfl, hu5⟩
            have HKo := Lib.hid (H5o.out.to hu5)
            have HKp := Lib.hid (H5p.out.to hu5)
            have HKq := Lib.hid (H5q.out.to hu5)
            have HKg := Lib.hid (H5g.out.to hu5)
            have HV6 := Lib.hid (cur_step1 HV5.out hu5)
            clear hu5 e5
            go_upto_region 19 with (fail)
            refine wp_region_lit ?_
            (refine wpList_step (fun K hK => ?_); go_simp; refine hK _ _ ?_; clear hK K)
            (refine wpList_step (fun K hK => ?_); go_simp; refine hK _ _ ?_; clear hK K)
            refine wpList_load_g (by rfl) 39 _ rfl u4.heap.size (by rfl) 39 (entE (g.getD zEnt)).toArray (0, 0) _ HKg.out Try.underlying39 rfl ent_info ?_
            refine wpList_load_g (by rfl) 39 _ rfl u3.heap.size (by rfl) 39 (entE (q.getD zEnt)).toArray (0, 0) _ HKq.out Try.underlying39 rfl ent_info ?_
            (refine wpList_step (fun K hK => ?_); go_simp; refine hK _ _ ?_; clear hK K)
            go_wp2_with (fail)
            exact ⟨⟨k + 1, hkl, rfl, HV6.out⟩, by show X.length - (k + 1) < X.length - k; omega⟩
          · skip
            have k1 : ∀ w : World, (binOp .neq 39 (.agg (entE (p.getD zEnt)).toArray) (.agg (entE (o.getD zEnt)).toArray)).run Try.prog w = .ok (.bool true) w := fun w => by rw [neq_opt p o HPP.out HPO.out]; simp [h1]
            have k2 : ∀ w : World, (binOp .neq 39 (.agg (entE (q.getD zEnt)).toArray) (.agg (entE (o.getD zEnt)).toArray)).run Try.prog w = .ok (.bool false) w := fun w => by rw [neq_opt q o HPQ.out HPO.out]; simp [h2]
            have f2 : q.isSome = o.isSome := by rw [h2]
            have hgt : g = p := by rw [HGO.out]; unfold tkn; rw [if_neg h1, if_pos (Or.inl h2)]
            have k4 : ∀ w : World, (binOp .neq 39 (.agg (entE (g.getD zEnt)).toArray) (.agg (entE (p.getD zEnt)).toArray)).run Try.prog w = .ok (.bool false) w := fun w => by rw [neq_opt g p (by rw [hgt]; exact HPP.out) HPP.out]; simp [hgt]
            have f4 : g.isSome = p.isSome := by rw [hgt]
            have hcl : decide (x.id ∈ C) = false := decide_eq_false (fun h => by have := HCC.out.1 h; unfold cls at this; simp [h2] at this)
            have HCLQ := Lib.hid hcl
            clear hcl hgt
            have hgd := guard_en
            obtain ⟨N, hN⟩ : ∃ N : Nat, 21 = N := ⟨_, rfl⟩
            have hZ : ∀ w, Sem.run Try.prog (sizeOf 39) w = .ok N w := fun w => by rw [← hN]; exact Try.sizeOf39 w
            have lo := blk_run (P := Try.prog) (N := N) HNo4.out (by rw [entE_len]; exact hN)
            have co : V4.cell? ⟨u1.heap.size, 0, none⟩ = some (.int .i64 (o.getD zEnt).id) := by rw [HNo4.out.cell]; rfl
            have lp := blk_run (P := Try.prog) (N := N) HNp4.out (by rw [entE_len]; exact hN)
            have cp : V4.cell? ⟨u2.heap.size, 0, none⟩ = some (.int .i64 (p.getD zEnt).id) := by rw [HNp4.out.cell]; rfl
            have lq := blk_run (P := Try.prog) (N := N) HNq4.out (by rw [entE_len]; exact hN)
            have cq : V4.cell? ⟨u3.heap.size, 0, none⟩ = some (.int .i64 (q.getD zEnt).id) := by rw [HNq4.out.cell]; rfl
            clear hZ0 hN h1 h2
            go_wp2_with (fail)
            go_quiet (fail)
            have e5 : (V4.drewN nq).cell? ⟨wr.heap.size, 0, none⟩ = some (.int .i64 x.id) := e4
            have H5o := Lib.hid (show Blk (V4.drewN nq) u1.heap.size 39 (entE (o.getD zEnt)) from HNo4.out)
            have H5p := Lib.hid (show Blk (V4.drewN nq) u2.heap.size 39 (entE (p.getD zEnt)) from HNp4.out)
            have H5q := Lib.hid (show Blk (V4.drewN nq) u3.heap.size 39 (entE (q.getD zEnt)) from HNq4.out)
            have H5g := Lib.hid (show Blk (V4.drewN nq) u4.heap.size 39 (entE (g.getD zEnt)) from HNg4.out)
            have HV5 := Lib.hid (below_drewN HV4.out nq)
            clear lo lp lq co cp cq hZ e4
            generalize V4.drewN nq = V5 at e5 H5o H5p H5q H5g HV5 ⊢
            go_wp2_with (fail)
            refine (contains_p C M2 m2 x.id V5 HCL.out (HCX.out.to HV5.out)).mono ?_
            rw [HCLQ.out]
            rintro e u5 ⟨rfl, hu5⟩
            have HKo := Lib.hid (H5o.out.to hu5)
            have HKp := Lib.hid (H5p.out.to hu5)
            have HKq := Lib.hid (H5q.out.to hu5)
            have HKg := Lib.hid (H5g.out.to hu5)
            have HV6 := Lib.hid (cur_step1 HV5.out hu5)
            clear hu5 e5
            go_upto_region 25 with (fail)
            refine wp_region_lit ?_
            (refine wpList_step (fun K hK => ?_); go_simp; refine hK _ _ ?_; clear hK K)
            (refine wpList_step (fun K hK => ?_); go_simp; refine hK _ _ ?_; clear hK K)
            refine wpList_load_g (by rfl) 39 _ rfl u4.heap.size (by rfl) 39 (entE (g.getD zEnt)).toArray (0, 0) _ HKg.out Try.underlying39 rfl ent_info ?_
            refine wpList_load_g (by rfl) 39 _ rfl u2.heap.size (by rfl) 39 (entE (p.getD zEnt)).toArray (0, 0) _ HKp.out Try.underlying39 rfl ent_info ?_
            (refine wpList_step (fun K hK => ?_); go_simp; refine hK _ _ ?_; clear hK K)
            go_wp2_with (fail)
            exact ⟨⟨k + 1, hkl, rfl, HV6.out⟩, by show X.length - (k + 1) < X.length - k; omega⟩
          · skip
            have k1 : ∀ w : World, (binOp .neq 39 (.agg (entE (p.getD zEnt)).toArray) (.agg (entE (o.getD zEnt)).toArray)).run Try.prog w = .ok (.bool true) w := fun w => by rw [neq_opt p o HPP.out HPO.out]; simp [h1]
            have k2 : ∀ w : World, (binOp .neq 39 (.agg (entE (q.getD zEnt)).toArray) (.agg (entE (o.getD zEnt)).toArray)).run Try.prog w = .ok (.bool true) w := fun w => by rw [neq_opt q o HPQ.out HPO.out]; simp [h2]
            have hgt : g = p := by rw [HGO.out]; unfold tkn; rw [if_neg h1, if_pos (Or.inr h3.symm)]
            have k4 : ∀ w : World, (binOp .neq 39 (.agg (entE (g.getD zEnt)).toArray) (.agg (entE (p.getD zEnt)).toArray)).run Try.prog w = .ok (.bool false) w := fun w => by rw [neq_opt g p (by rw [hgt]; exact HPP.out) HPP.out]; simp [hgt]
            have f4 : g.isSome = q.isSome := by rw [hgt, h3]
            have k3 : ∀ w : World, (binOp .neq 39 (.agg (entE (p.getD zEnt)).toArray) (.agg (entE (q.getD zEnt)).toArray)).run Try.prog w = .ok (.bool false) w := fun w => by rw [neq_opt p q HPP.out HPQ.out]; simp [h3]
            have f3 : p.isSome = q.isSome := by rw [h3]
            have hcl : decide (x.id ∈ C) = false := decide_eq_false (fun h => by have := HCC.out.1 h; unfold cls at this; simp [h3] at this)
            have HCLQ := Lib.hid hcl
            clear hcl hgt
            have hgd := guard_en
            obtain ⟨N, hN⟩ : ∃ N : Nat, 21 = N := ⟨_, rfl⟩
            have hZ : ∀ w, Sem.run Try.prog (sizeOf 39) w = .ok N w := fun w => by rw [← hN]; exact Try.sizeOf39 w
            have lo := blk_run (P := Try.prog) (N := N) HNo4.out (by rw [entE_len]; exact hN)
            have co : V4.cell? ⟨u1.heap.size, 0, none⟩ = some (.int .i64 (o.getD zEnt).id) := by rw [HNo4.out.cell]; rfl
            have lp := blk_run (P := Try.prog) (N := N) HNp4.out (by rw [entE_len]; exact hN)
            have cp : V4.cell? ⟨u2.heap.size, 0, none⟩ = some (.int .i64 (p.getD zEnt).id) := by rw [HNp4.out.cell]; rfl
            have lq := blk_run (P := Try.prog) (N := N) HNq4.out (by rw [entE_len]; exact hN)
            have cq : V4.cell? ⟨u3.heap.size, 0, none⟩ = some (.int .i64 (q.getD zEnt).id) := by rw [HNq4.out.cell]; rfl
            clear hZ0 hN h1 h2 h3
            go_wp2_with (fail)
            go_quiet (fail)
            have e5 : (V4.drewN nq).cell? ⟨wr.heap.size, 0, none⟩ = some (.int .i64 x.id) := e4
            have H5o := Lib.hid (show Blk (V4.drewN nq) u1.heap.size 39 (entE (o.getD zEnt)) from HNo4.out)
            have H5p := Lib.hid (show Blk (V4.drewN nq) u2.heap.size 39 (entE (p.getD zEnt)) from HNp4.out)
            have H5q := Lib.hid (show Blk (V4.drewN nq) u3.heap.size 39 (entE (q.getD zEnt)) from HNq4.out)
            have H5g := Lib.hid (show Blk (V4.drewN nq) u4.heap.size 39 (entE (g.getD zEnt)) from HNg4.out)
            have HV5 := Lib.hid (below_drewN HV4.out nq)
            clear lo lp lq co cp cq hZ e4
            generalize V4.drewN nq = V5 at e5 H5o H5p H5q H5g HV5 ⊢
            go_wp2_with (fail)
            refine (contains_p C M2 m2 x.id V5 HCL.out (HCX.out.to HV5.out)).mono ?_
            rw [HCLQ.out]
            rintro e u5 ⟨rfl, hu5⟩
            have HKo := Lib.hid (H5o.out.to hu5)
            have HKp := Lib.hid (H5p.out.to hu5)
            have HKq := Lib.hid (H5q.out.to hu5)
            have HKg := Lib.hid (H5g.out.to hu5)
            have HV6 := Lib.hid (cur_step1 HV5.out hu5)
            clear hu5 e5
            go_upto_region 21 with (fail)
            refine wp_region_lit ?_
            (refine wpList_step (fun K hK => ?_); go_simp; refine hK _ _ ?_; clear hK K)
            (refine wpList_step (fun K hK => ?_); go_simp; refine hK _ _ ?_; clear hK K)
            (refine wpList_step (fun K hK => ?_); go_simp; refine hK _ _ ?_; clear hK K)
            (refine wpList_step (fun K hK => ?_); go_simp; refine hK _ _ ?_; clear hK K)
            (refine wpList_step (fun K hK => ?_); go_simp; refine hK _ _ ?_; clear hK K)
            refine wpList_load_g (by rfl) 39 _ rfl u2.heap.size (by rfl) 39 (entE (p.getD zEnt)).toArray (0, 0) _ HKp.out Try.underlying39 rfl ent_info ?_
            refine wpList_load_g (by rfl) 39 _ rfl u3.heap.size (by rfl) 39 (entE (q.getD zEnt)).toArray (0, 0) _ HKq.out Try.underlying39 rfl ent_info ?_
            (refine wpList_step (fun K hK => ?_); go_simp; refine hK _ _ ?_; clear hK K)
            go_upto_region 25 with (fail)
            refine wp_region_lit ?_
            (refine wpList_step (fun K hK => ?_); go_simp; refine hK _ _ ?_; clear hK K)
            (refine wpList_step (fun K hK => ?_); go_simp; refine hK _ _ ?_; clear hK K)
            refine wpList_load_g (by rfl) 39 _ rfl u4.heap.size (by rfl) 39 (entE (g.getD zEnt)).toArray (0, 0) _ HKg.out Try.underlying39 rfl ent_info ?_
            refine wpList_load_g (by rfl) 39 _ rfl u2.heap.size (by rfl) 39 (entE (p.getD zEnt)).toArray (0, 0) _ HKp.out Try.underlying39 rfl ent_info ?_
            (refine wpList_step (fun K hK => ?_); go_simp; refine hK _ _ ?_; clear hK K)
            go_wp2_with (fail)
            exact ⟨⟨k + 1, hkl, rfl, HV6.out⟩, by show X.length - (k + 1) < X.length - k; omega⟩
          · skip
            have k1 : ∀ w : World, (binOp .neq 39 (.agg (entE (p.getD zEnt)).toArray) (.agg (entE (o.getD zEnt)).toArray)).run Try.prog w = .ok (.bool true) w := fun w => by rw [neq_opt p o HPP.out HPO.out]; simp [h1]
            have k2 : ∀ w : World, (binOp .neq 39 (.agg (entE (q.getD zEnt)).toArray) (.agg (entE (o.getD zEnt)).toArray)).run Try.prog w = .ok (.bool true) w := fun w => by rw [neq_opt q o HPQ.out HPO.out]; simp [h2]
            have hgt : g = o := by rw [HGO.out]; unfold tkn; rw [if_neg h1, if_neg (by rintro (h | h); exact h2 h; exact h3 h.symm)]
            have k4 : ∀ w : World, (binOp .neq 39 (.agg (entE (g.getD zEnt)).toArray) (.agg (entE (o.getD zEnt)).toArray)).run Try.prog w = .ok (.bool false) w := fun w => by rw [neq_opt g o (by rw [hgt]; exact HPO.out) HPO.out]; simp [hgt]
            have f4 : g.isSome = o.isSome := by rw [hgt]
            have k3 : ∀ w : World, (binOp .neq 39 (.agg (entE (p.getD zEnt)).toArray) (.agg (entE (q.getD zEnt)).toArray)).run Try.prog w = .ok (.bool true) w := fun w => by rw [neq_opt p q HPP.out HPQ.out]; simp [h3]
            have hcl : decide (x.id ∈ C) = true := decide_eq_true (HCC.out.2 (by unfold cls; simp [h1, h2]; exact fun h => h3 h.symm))
            have HCLQ := Lib.hid hcl
            clear hcl hgt
            have hgd := guard_en
            obtain ⟨N, hN⟩ : ∃ N : Nat, 21 = N := ⟨_, rfl⟩
            have hZ : ∀ w, Sem.run Try.prog (sizeOf 39) w = .ok N w := fun w => by rw [← hN]; exact Try.sizeOf39 w
            have lo := blk_run (P := Try.prog) (N := N) HNo4.out (by rw [entE_len]; exact hN)
            have co : V4.cell? ⟨u1.heap.size, 0, none⟩ = some (.int .i64 (o.getD zEnt).id) := by rw [HNo4.out.cell]; rfl
            have lp := blk_run (P := Try.prog) (N := N) HNp4.out (by rw [entE_len]; exact hN)
            have cp : V4.cell? ⟨u2.heap.size, 0, none⟩ = some (.int .i64 (p.getD zEnt).id) := by rw [HNp4.out.cell]; rfl
            have lq := blk_run (P := Try.prog) (N := N) HNq4.out (by rw [entE_len]; exact hN)
            have cq : V4.cell? ⟨u3.heap.size, 0, none⟩ = some (.int .i64 (q.getD zEnt).id) := by rw [HNq4.out.cell]; rfl
            clear hZ0 hN h1 h2 h3
            go_wp2_with (fail)
            go_quiet (fail)
            have e5 : (V4.drewN nq).cell? ⟨wr.heap.size, 0, none⟩ = some (.int .i64 x.id) := e4
            have H5o := Lib.hid (show Blk (V4.drewN nq) u1.heap.size 39 (entE (o.getD zEnt)) from HNo4.out)
            have H5p := Lib.hid (show Blk (V4.drewN nq) u2.heap.size 39 (entE (p.getD zEnt)) from HNp4.out)
            have H5q := Lib.hid (show Blk (V4.drewN nq) u3.heap.size 39 (entE (q.getD zEnt)) from HNq4.out)
            have H5g := Lib.hid (show Blk (V4.drewN nq) u4.heap.size 39 (entE (g.getD zEnt)) from HNg4.out)
            have HV5 := Lib.hid (below_drewN HV4.out nq)
            clear lo lp lq co cp cq hZ e4
            generalize V4.drewN nq = V5 at e5 H5o H5p H5q H5g HV5 ⊢
            go_wp2_with (fail)
            refine (contains_p C M2 m2 x.id V5 HCL.out (HCX.out.to HV5.out)).mono ?_
            rw [HCLQ.out]
            rintro e u5 ⟨rfl, hu5⟩
            have HKo := Lib.hid (H5o.out.to hu5)
            have HKp := Lib.hid (H5p.out.to hu5)
            have HKq := Lib.hid (H5q.out.to hu5)
            have HKg := Lib.hid (H5g.out.to hu5)
            have HV6 := Lib.hid (cur_step1 HV5.out hu5)
            clear hu5 e5
            go_upto_region 21 with (fail)
            refine wp_region_lit ?_
            (refine wpList_step (fun K hK => ?_); go_simp; refine hK _ _ ?_; clear hK K)
            (refine wpList_step (fun K hK => ?_); go_simp; refine hK _ _ ?_; clear hK K)
            (refine wpList_step (fun K hK => ?_); go_simp; refine hK _ _ ?_; clear hK K)
            (refine wpList_step (fun K hK => ?_); go_simp; refine hK _ _ ?_; clear hK K)
            (refine wpList_step (fun K hK => ?_); go_simp; refine hK _ _ ?_; clear hK K)
            refine wpList_load_g (by rfl) 39 _ rfl u2.heap.size (by rfl) 39 (entE (p.getD zEnt)).toArray (0, 0) _ HKp.out Try.underlying39 rfl ent_info ?_
            refine wpList_load_g (by rfl) 39 _ rfl u3.heap.size (by rfl) 39 (entE (q.getD zEnt)).toArray (0, 0) _ HKq.out Try.underlying39 rfl ent_info ?_
            (refine wpList_step (fun K hK => ?_); go_simp; refine hK _ _ ?_; clear hK K)
            go_upto_region 22 with (fail)
            refine wp_region_lit ?_
            (refine wpList_step (fun K hK => ?_); go_simp; refine hK _ _ ?_; clear hK K)
            (refine wpList_step (fun K hK => ?_); go_simp; refine hK _ _ ?_; clear hK K)
            (refine wpList_step (fun K hK => ?_); go_simp; refine hK _ _ ?_; clear hK K)
            refine wpList_load_g (by rfl) 39 _ rfl u4.heap.size (by rfl) 39 (entE (g.getD zEnt)).toArray (0, 0) _ HKg.out Try.underlying39 rfl ent_info ?_
            refine wpList_load_g (by rfl) 39 _ rfl u1.heap.size (by rfl) 39 (entE (o.getD zEnt)).toArray (0, 0) _ HKo.out Try.underlying39 rfl ent_info ?_
            (refine wpList_step (fun K hK => ?_); go_simp; refine hK _ _ ?_; clear hK K)
            go_wp2_with (fail)
            exact ⟨⟨k + 1, hkl, rfl, HV6.out⟩, by show X.length - (k + 1) < X.length - k; omega⟩
        · have hkx : k = X.length := by omega
          go_wp2_with (fail)
          refine (chka_p M M1 m1 wr HML.out (fun x hx => Nat.le_trans (HMS.out x hx) (by decide)) (HMX.out.to HBW.out)).mono ?_
          rintro e w11 ⟨rfl, hb11⟩
          rw [show chkA M = 0 from HMG.out.chk (by have := HMB.out; omega)]
          go_wp2_with (fail)
          go_ret
          exact ⟨rfl, cur_step1 (cur_step1 HBX.out HBW.out) hb11⟩
end Go.Proofs.Ytimmlffgokgekaa
