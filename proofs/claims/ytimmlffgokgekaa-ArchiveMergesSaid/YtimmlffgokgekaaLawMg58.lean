/-
  Chapter 58: ArchiveMerges: the walk.
-/
import Derived.Test.YtimmlffgokgekaaAwkM
import Derived.Test.YtimmlffgokgekaaMrR
import Derived.Test.YtimmlffgokgekaaArcQ
set_option linter.unusedSimpArgs false
set_option linter.unusedVariables false
namespace Go.Proofs.Ytimmlffgokgekaa
open Go.RowKit
set_option maxRecDepth 100000
set_option maxHeartbeats 20000000
theorem law_merges (A1 A2 A3 : Option Addr) (c1 c2 c3 : Nat) (b a r : List Ent) (w : World) (hb : b.length ≤ c1) (hbc : c1 ≤ 9223372036854775807) (ha : a.length ≤ c2) (hac : c2 ≤ 9223372036854775807) (hr : r.length ≤ c3) (hrc : c3 ≤ 9223372036854775807)
    (hsb : ∀ x ∈ b, x.sc.size ≤ 9223372036854775807) (hsa : ∀ x ∈ a, x.sc.size ≤ 9223372036854775807) (hsr : ∀ x ∈ r, x.sc.size ≤ 9223372036854775807) (hdb : Rd entE 21 w w.heap.size A1 b) (hda : Rd entE 21 w w.heap.size A2 a) (hdr : Rd entE 21 w w.heap.size A3 r) :
    Calls Try.prog 3 #[.slice A1 b.length c1, .slice A2 a.length c2, .slice A3 r.length c3] w fun e w' => e = .returned (.bool true) ∧ Below w.heap.size w w' := by
  have HSB := Lib.hid hsb
  have HSA := Lib.hid hsa
  have HSR := Lib.hid hsr
  have HDB := Lib.hid hdb
  have HDA := Lib.hid hda
  have HDR := Lib.hid hdr
  clear hsb hsa hsr hdb hda hdr
  go_enter Try.func3, Try.ntmps3
  go_wp2_with (fail)
  refine (awake_p w).mono ?_
  rintro e w1 ⟨rfl, hb1⟩
  have HB1 := Lib.hid hb1
  clear hb1
  go_wp2_with (fail)
  refine (few_p b A1 c1 w1 hb hbc HSB.out (HDB.out.to HB1.out)).mono ?_
  rintro e w2 ⟨⟨v, rfl, ho⟩, hb2⟩
  obtain ⟨B1, d1, rfl, hrd, _⟩ := OwnL.rd entE_len ho
  have HB2 := Lib.hid (cur_step1 HB1.out hb2)
  have HR12 := Lib.hid hrd
  clear ho hrd hb2
  go_wp2_with (fail)
  refine (few_p a A2 c2 w2 ha hac HSA.out (HDA.out.to HB2.out)).mono ?_
  rintro e w3 ⟨⟨v, rfl, ho⟩, hb3⟩
  obtain ⟨B2, d2, rfl, hrd, _⟩ := OwnL.rd entE_len ho
  have HB3 := Lib.hid (cur_step1 HB2.out hb3)
  have HR13 := Lib.hid (HR12.out.to hb3)
  have HR23 := Lib.hid hrd
  clear ho hrd hb3
  go_wp2_with (fail)
  refine (few_p r A3 c3 w3 hr hrc HSR.out (HDR.out.to HB3.out)).mono ?_
  rintro e w4 ⟨⟨v, rfl, ho⟩, hb4⟩
  obtain ⟨B3, d3, rfl, hrd, _⟩ := OwnL.rd entE_len ho
  have HB4 := Lib.hid (cur_step1 HB3.out hb4)
  have HR14 := Lib.hid (HR13.out.to hb4)
  have HR24 := Lib.hid (HR23.out.to hb4)
  have HR34 := Lib.hid hrd
  clear ho hrd hb4
  have HS1 := Lib.hid (fewA_sc b)
  have HS2 := Lib.hid (fewA_sc a)
  have HS3 := Lib.hid (fewA_sc r)
  have HL1 := Lib.hid (fewA_len b)
  have HL2 := Lib.hid (fewA_len a)
  have HL3 := Lib.hid (fewA_len r)
  generalize fewA b = B at HR14 HS1 HL1 ⊢
  generalize fewA a = L at HR24 HS2 HL2 ⊢
  generalize fewA r = R at HR34 HS3 HL3 ⊢
  clear HR12 HR13 HR23 HDB HDA HDR HSB HSA HSR HB1 HB2 HB3
  obtain ⟨fl, hfl⟩ : ∃ fl : List Fl, [⟨B1, d1, B⟩, ⟨B2, d2, L⟩, ⟨B3, d3, R⟩] = fl := ⟨_, rfl⟩
  have HLEN := Lib.hid (show (flI fl).length ≤ 400 by rw [← hfl]; simp [flI]; have := HL1.out; have := HL2.out; have := HL3.out; omega)
  have HSC := Lib.hid (show ∀ f ∈ fl, ∀ x ∈ f.l, x.sc.size ≤ 9223372036854775807 by
    intro f hf x hx
    rw [← hfl] at hf
    simp only [List.mem_cons, List.not_mem_nil, or_false] at hf
    rcases hf with rfl | rfl | rfl
    · exact Nat.le_trans (HS1.out x hx) (by decide)
    · exact Nat.le_trans (HS2.out x hx) (by decide)
    · exact Nat.le_trans (HS3.out x hx) (by decide))
  have HRD := Lib.hid (show ∀ f ∈ fl, Rd entE 21 w4 w4.heap.size f.a f.l by
    intro f hf
    rw [← hfl] at hf
    simp only [List.mem_cons, List.not_mem_nil, or_false] at hf
    rcases hf with rfl | rfl | rfl
    · exact HR14.out
    · exact HR24.out
    · exact HR34.out)
  have HIL := Lib.hid (show (idsU B L R).length ≤ 36 from Nat.le_trans (idsU_len B L R) (by have := HL1.out; have := HL2.out; have := HL3.out; omega))
  have HML := Lib.hid (show (mOut B L R (idsU B L R)).length ≤ 1000000 from Nat.le_trans (mOut_len _ _ _ _) (Nat.le_trans HIL.out (by decide)))
  have HCL := Lib.hid (show (mCl B L R (idsU B L R)).length ≤ 1000000 from Nat.le_trans (mCl_len _ _ _ _) (Nat.le_trans HIL.out (by decide)))
  have HFL := Lib.hid hfl.symm
  clear hfl
  go_wp2_with (fail)
  refine merge_e fl B1 B2 B3 d1 d2 d3 B L R HFL.out w4 HLEN.out HSC.out HRD.out _ ?bad ?good
  case bad =>
    intro hne w5 hb5
    have HNE := Lib.hid hne
    have HB5 := Lib.hid (cur_step1 HB4.out hb5)
    have HRD5 := Lib.hid (show ∀ f ∈ fl, Rd entE 21 w5 w5.heap.size f.a f.l from fun f hf => (HRD.out f hf).to hb5)
    obtain ⟨ev, hev⟩ : ∃ ev, flE fl = ev := ⟨_, rfl⟩
    have HEV := Lib.hid hev
    rw [hev]
    clear hne hb5 hev
    go_wp2_with (fail)
    refine merge_r fl B1 B2 B3 d1 d2 d3 B L R HFL.out w5 HLEN.out HSC.out HRD5.out _ ?bad2 (fun h => absurd h HNE.out)
    intro _ w6 hb6
    have HB6 := Lib.hid (cur_step1 HB5.out hb6)
    rw [HEV.out]
    clear hb6
    go_wp2_with (fail)
    refine (eq_ent none none 0 0 [] [] w6 (by decide) (by decide) Rd.nil_ Rd.nil_).mono ?_
    rintro e w7 ⟨rfl, hb7⟩
    rw [decide_eq_true rfl]
    have HB7 := Lib.hid (cur_step1 HB6.out hb7)
    clear hb7
    go_wp2_with (fail)
    refine (eq_cl none none 0 0 [] [] w7 (by decide) (by decide) Rd.nil_ Rd.nil_).mono ?_
    rintro e w8 ⟨rfl, hb8⟩
    rw [decide_eq_true rfl]
    have HB8 := Lib.hid (cur_step1 HB7.out hb8)
    clear hb8
    go_wp2_with (fail)
    go_ret
    exact ⟨rfl, HB8.out⟩
  case good =>
    intro h0 v1 v2 w5 ho1 ho2 hb5
    have HNE := Lib.hid h0
    obtain ⟨M1, m1, rfl, hr1, _⟩ := OwnL.rd entE_len ho1
    obtain ⟨M2, m2, rfl, hr2, _⟩ := OwnL.rd inE_len ho2
    have HM5 := Lib.hid hr1
    have HC5 := Lib.hid hr2
    have HB5 := Lib.hid (cur_step1 HB4.out hb5)
    have HRD5 := Lib.hid (show ∀ f ∈ fl, Rd entE 21 w5 w5.heap.size f.a f.l from fun f hf => (HRD.out f hf).to hb5)
    clear h0 hb5 ho1 ho2 hr1 hr2
    go_wp2_with (fail)
    refine merge_r fl B1 B2 B3 d1 d2 d3 B L R HFL.out w5 HLEN.out HSC.out HRD5.out _ (fun h => absurd HNE.out h) ?_
    intro _ v1 v2 w6 ho1 ho2 hb6
    obtain ⟨N1, n1, rfl, hr1, _⟩ := OwnL.rd entE_len ho1
    obtain ⟨N2, n2, rfl, hr2, _⟩ := OwnL.rd inE_len ho2
    have HM6 := Lib.hid (HM5.out.to hb6)
    have HC6 := Lib.hid (HC5.out.to hb6)
    have HN6 := Lib.hid hr1
    have HD6 := Lib.hid hr2
    have HB6 := Lib.hid (cur_step1 HB5.out hb6)
    clear hb6 ho1 ho2 hr1 hr2
    generalize mOut B L R (idsU B L R) = M at HM6 HN6 HML ⊢
    generalize mCl B L R (idsU B L R) = C at HC6 HD6 HCL ⊢
    go_wp2_with (fail)
    refine (eq_ent M1 N1 m1 n1 M M w6 HML.out HML.out HM6.out HN6.out).mono ?_
    rintro e w7 ⟨rfl, hb7⟩
    rw [decide_eq_true rfl]
    have HB7 := Lib.hid (cur_step1 HB6.out hb7)
    have HC7 := Lib.hid (HC6.out.to hb7)
    have HD7 := Lib.hid (HD6.out.to hb7)
    clear hb7
    go_wp2_with (fail)
    refine (eq_cl M2 N2 m2 n2 C C w7 HCL.out HCL.out HC7.out HD7.out).mono ?_
    rintro e w8 ⟨rfl, hb8⟩
    rw [decide_eq_true rfl]
    have HB8 := Lib.hid (cur_step1 HB7.out hb8)
    clear hb8
    go_wp2_with (fail)
    go_ret
    exact ⟨rfl, HB8.out⟩
end Go.Proofs.Ytimmlffgokgekaa
