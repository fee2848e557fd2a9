/-
  Chapter 12: the reference's comparison of two states, at equal ones.
-/
import Derived.Test.YtjlmlafiojpjmaaCrD
import Derived.BigGuard
set_option linter.unusedSimpArgs false
set_option linter.unusedVariables false
namespace Go.Proofs.Ytjlmlafiojpjmaa
open Go.RowKit
set_option maxRecDepth 100000
set_option maxHeartbeats 4000000
def InR (w : World) (n : Nat) (i : Value) (wr : World) : Prop := ∃ k : Nat, k ≤ n ∧ i = .int .i64 k ∧ Below w.heap.size w wr
theorem Lst.at_ {w : World} {v : Value} {xs : List Value} (h : Lst w v xs) {n : Nat} (hn : xs.length = n) {A : Option Addr} {c : Nat} (hv : v = .slice A n c) {k : Nat} (hk : k < n) : ∃ b off, A = some ⟨b, off, none⟩ ∧ n ≤ c ∧ b < w.heap.size ∧ ∀ u, xs[k]? = some u → w.cell? ⟨b, off + k, none⟩ = some u := by
  rcases h with ⟨_, rfl⟩ | ⟨b, off, c', h1, h2, h3, h4⟩ | ⟨_, _, _, rfl⟩
  · simp at hn; omega
  · rw [hv] at h1
    injection h1 with e1 e2 e3
    exact ⟨b, off, e1, by omega, h3, fun u hu => h4 k u hu⟩
  · simp at hn; omega
theorem ints_t (l : List Int) (v u : Value) (w : World) (hl : l.length ≤ 1000000) (hv : Lst w v (inC l)) (hu : Lst w u (inC l)) :
    Calls Try.prog 27 #[v, u] w fun e w' => e = .returned (.bool true) ∧ Below w.heap.size w w' := by
  obtain ⟨A, c, hfv, _⟩ := hv.form
  obtain ⟨B, d, hfu, _⟩ := hu.form
  rw [inC_len] at hfv hfu
  have HV := Lib.hid hv
  have HU := Lib.hid hu
  have HFV := Lib.hid hfv
  have HFU := Lib.hid hfu
  obtain ⟨n, hn⟩ : ∃ n, l.length = n := ⟨_, rfl⟩
  have HN := Lib.hid hn
  rw [hfv, hfu, hn]
  rw [hn] at hl
  clear hv hu hfv hfu hn
  go_enter Try.func27, Try.ntmps27
  go_wp2_with fail
  go_loopw [13] (InR w n) (fun i _ => n - (intOf i).toNat)
  case atStart => exact ⟨0, by omega, rfl, Below.refl _ _⟩
  case round =>
    obtain ⟨k, hk, rfl, hb⟩ := hrel
    have HB := Lib.hid hb
    clear hb
    by_cases hkl : k < n
    · obtain ⟨b1, o1, e1, h1, l1, c1⟩ := (HV.out.to HB.out).at_ (by rw [inC_len, HN.out]) (by rw [HFV.out, HN.out]) hkl
      obtain ⟨b2, o2, e2, h2, l2, c2⟩ := (HU.out.to HB.out).at_ (by rw [inC_len, HN.out]) (by rw [HFU.out, HN.out]) hkl
      obtain ⟨x, hx⟩ : ∃ x, l[k]? = some x := ⟨_, List.getElem?_eq_getElem (by rw [HN.out]; exact hkl)⟩
      have d1 := c1 _ (inC_at hx)
      have d2 := c2 _ (inC_at hx)
      subst e1 e2
      clear c1 c2 hx
      go_wp2_with fail
      go_quiet (fail)
      go_wp2
      go_roundw
      case rel => exact ⟨k + 1, hkl, by simp, HB.out.trans ((cur_drew _ _).mono HB.out.size)⟩
      case measure => simp [intOf]; omega
    · go_wp2_with fail
      go_ret
      exact ⟨rfl, HB.out⟩
theorem cells_of {w : World} {g : Nat} {I : Inn} {V : Ls} (h : Blk w g 32 (I.cells V)) : w.cell? ⟨g, 0, none⟩ = some (.int .i64 I.r.a0) ∧ w.cell? ⟨g, 1, none⟩ = some (.int .i64 I.r.a1) ∧ w.cell? ⟨g, 2, none⟩ = some (.int .i64 I.r.a2) ∧ w.cell? ⟨g, 3, none⟩ = some (.int .i64 I.r.a3) ∧ w.cell? ⟨g, 4, none⟩ = some (.int .i64 I.wk) ∧ w.cell? ⟨g, 5, none⟩ = some (.int .i64 I.r.e0) ∧ w.cell? ⟨g, 6, none⟩ = some (.int .i64 I.r.e1) ∧ w.cell? ⟨g, 7, none⟩ = some (.int .i64 I.r.e2) ∧ w.cell? ⟨g, 8, none⟩ = some (.int .i64 I.r.e3) ∧ w.cell? ⟨g, 9, none⟩ = some (.int .i64 I.r.e4) ∧ w.cell? ⟨g, 10, none⟩ = some (.int .i64 I.r.c1) ∧ w.cell? ⟨g, 11, none⟩ = some (.int .i64 I.r.c2) ∧ w.cell? ⟨g, 12, none⟩ = some (.int .i64 I.st) ∧ w.cell? ⟨g, 13, none⟩ = some (.int .i64 I.ot) ∧ w.cell? ⟨g, 14, none⟩ = some V.b ∧ w.cell? ⟨g, 15, none⟩ = some (.int .i64 I.r.bw) ∧ w.cell? ⟨g, 16, none⟩ = some V.bo ∧ w.cell? ⟨g, 17, none⟩ = some V.be ∧ w.cell? ⟨g, 18, none⟩ = some (.bool I.r.fr) ∧ w.cell? ⟨g, 19, none⟩ = some V.bd ∧ w.cell? ⟨g, 20, none⟩ = some (.bool I.r.fh) ∧ w.cell? ⟨g, 21, none⟩ = some (.int .i64 I.r.ba) ∧ w.cell? ⟨g, 22, none⟩ = some (.int .i64 I.r.kp) ∧ w.cell? ⟨g, 23, none⟩ = some (.int .i64 I.r.os) ∧ w.cell? ⟨g, 24, none⟩ = some V.sb ∧ w.cell? ⟨g, 25, none⟩ = some (.int .i64 I.r.r1) ∧ w.cell? ⟨g, 26, none⟩ = some (.int .i64 I.r.r2) ∧ w.cell? ⟨g, 27, none⟩ = some (.int .u8 I.r.en) :=
  ⟨h.cell 0, h.cell 1, h.cell 2, h.cell 3, h.cell 4, h.cell 5, h.cell 6, h.cell 7, h.cell 8, h.cell 9, h.cell 10, h.cell 11, h.cell 12, h.cell 13, h.cell 14, h.cell 15, h.cell 16, h.cell 17, h.cell 18, h.cell 19, h.cell 20, h.cell 21, h.cell 22, h.cell 23, h.cell 24, h.cell 25, h.cell 26, h.cell 27⟩
theorem same_t (I : Inn) (V U : Ls) (w : World) (hl : I.Few) (hV : InnR w V I) (hU : InnR w U I) :
    Calls Try.prog 14 #[.agg (I.cells V).toArray, .agg (I.cells U).toArray] w fun e w' => e = .returned (.bool true) ∧ Below w.heap.size w w' := by
  have HL := Lib.hid hl
  have HV := Lib.hid hV
  have HU := Lib.hid hU
  obtain ⟨A, c, hfv, hcv⟩ := hV.b.form
  obtain ⟨B, d, hfu, hcu⟩ := hU.b.form
  obtain ⟨A2, c2, hfv2, hcv2⟩ := hV.sb.form
  obtain ⟨B2, d2, hfu2, hcu2⟩ := hU.sb.form
  rw [stC_len] at hfv hfu
  rw [boC_len] at hfv2 hfu2
  have HFV := Lib.hid hfv
  have HFU := Lib.hid hfu
  have HFV2 := Lib.hid hfv2
  have HFU2 := Lib.hid hfu2
  obtain ⟨n, hn⟩ : ∃ n, I.b.length = n := ⟨_, rfl⟩
  obtain ⟨m, hm⟩ : ∃ m, I.sb.length = m := ⟨_, rfl⟩
  have HN := Lib.hid hn
  have HM := Lib.hid hm
  have hn1 : n ≤ 1000 := by rw [← hn]; exact hl.b
  have hm1 : m ≤ 1000 := by rw [← hm]; exact hl.sb
  obtain ⟨hin, hre, hb0⟩ := entry2 w (I.cells V) (I.cells U) 32 32
  obtain ⟨w0, hw0⟩ : ∃ y, (w.alloc (.cells (I.cells V).toArray 32)).alloc (.cells (I.cells U).toArray 32) = y := ⟨_, rfl⟩
  rw [hw0] at hin hre hb0
  have S0 := Lib.hid hw0
  have HI := Lib.hid hin
  have HJ := Lib.hid hre
  have HB := Lib.hid hb0
  rw [hn] at hfv hfu
  rw [hm] at hfv2 hfu2
  clear hl hV hU hn hm hin hre hb0 hw0 hcv hcu hcv2 hcu2
  have p14 : w0.cell? ⟨w.heap.size, 14, none⟩ = some (.slice A n c) := by rw [← hfv]; exact HI.out.cell 14
  have q14 : w0.cell? ⟨w.heap.size + 1, 14, none⟩ = some (.slice B n d) := by rw [← hfu]; exact HJ.out.cell 14
  have p24 : w0.cell? ⟨w.heap.size, 24, none⟩ = some (.slice A2 m c2) := by rw [← hfv2]; exact HI.out.cell 24
  have q24 : w0.cell? ⟨w.heap.size + 1, 24, none⟩ = some (.slice B2 m d2) := by rw [← hfu2]; exact HJ.out.cell 24
  have p16 : w0.cell? ⟨w.heap.size, 16, none⟩ = some V.bo := HI.out.cell 16
  have q16 : w0.cell? ⟨w.heap.size + 1, 16, none⟩ = some U.bo := HJ.out.cell 16
  go_enter Try.func14, Try.ntmps14
  go_wp2_with (rw [S0.out])
  refine (ints_t I.bo V.bo U.bo _ (by have := HL.out.bo; omega) (HV.out.to HB.out).bo (HU.out.to HB.out).bo).mono ?_
  rintro e w1 ⟨rfl, hb1⟩
  have HI1 := Lib.hid (HI.out.to hb1)
  have HJ1 := Lib.hid (HJ.out.to hb1)
  have HB1 := Lib.hid (cur_step1 HB.out hb1)
  clear hb1 p14 q14 p24 q24 p16 q16
  have p17 : w1.cell? ⟨w.heap.size, 17, none⟩ = some V.be := HI1.out.cell 17
  have q17 : w1.cell? ⟨w.heap.size + 1, 17, none⟩ = some U.be := HJ1.out.cell 17
  go_wp2_with (fail)
  refine (ints_t I.be V.be U.be _ (by have := HL.out.be; omega) (HV.out.to HB1.out).be (HU.out.to HB1.out).be).mono ?_
  rintro e w2 ⟨rfl, hb1⟩
  have HI2 := Lib.hid (HI1.out.to hb1)
  have HJ2 := Lib.hid (HJ1.out.to hb1)
  have HB2 := Lib.hid (cur_step1 HB1.out hb1)
  clear hb1 p17 q17
  have p19 : w2.cell? ⟨w.heap.size, 19, none⟩ = some V.bd := HI2.out.cell 19
  have q19 : w2.cell? ⟨w.heap.size + 1, 19, none⟩ = some U.bd := HJ2.out.cell 19
  go_wp2_with (fail)
  refine (ints_t I.bd V.bd U.bd _ (by have := HL.out.bd; omega) (HV.out.to HB2.out).bd (HU.out.to HB2.out).bd).mono ?_
  rintro e w3 ⟨rfl, hb1⟩
  have HI3 := Lib.hid (HI2.out.to hb1)
  have HJ3 := Lib.hid (HJ2.out.to hb1)
  have HB3 := Lib.hid (cur_step1 HB2.out hb1)
  clear hb1 p19 q19
  have p14 : w3.cell? ⟨w.heap.size, 14, none⟩ = some (.slice A n c) := by rw [← hfv]; exact HI3.out.cell 14
  have q14 : w3.cell? ⟨w.heap.size + 1, 14, none⟩ = some (.slice B n d) := by rw [← hfu]; exact HJ3.out.cell 14
  go_wp2_with (fail)
  go_loopw [50, 5] (fun i v wr => InR w3 n i wr) (fun i _ _ => n - (intOf i).toNat)
  case atStart => exact ⟨0, by omega, rfl, Below.refl _ _⟩
  case round =>
    obtain ⟨k, hk, rfl, hb⟩ := hrel
    have HBR := Lib.hid hb
    have HBW := Lib.hid (cur_step1 HB3.out hb)
    have HIR := Lib.hid (HI3.out.to hb)
    have HJR := Lib.hid (HJ3.out.to hb)
    clear hb p14 q14
    by_cases hkl : k < n
    · obtain ⟨b1, o1, e1, h1, l1, c1⟩ := (HV.out.to HBW.out).b.at_ (by rw [stC_len, HN.out]) (by rw [HFV.out, HN.out]) hkl
      obtain ⟨b2, o2, e2, h2, l2, c2⟩ := (HU.out.to HBW.out).b.at_ (by rw [stC_len, HN.out]) (by rw [HFU.out, HN.out]) hkl
      obtain ⟨x, hx⟩ : ∃ x, I.b[k]? = some x := ⟨_, List.getElem?_eq_getElem (by rw [HN.out]; exact hkl)⟩
      have d1 := c1 _ (stC_at hx)
      have d2 := c2 _ (stC_at hx)
      have p14 : wr.cell? ⟨w.heap.size, 14, none⟩ = some (.slice A n c) := by rw [← hfv]; exact HIR.out.cell 14
      have q14 : wr.cell? ⟨w.heap.size + 1, 14, none⟩ = some (.slice B n d) := by rw [← hfu]; exact HJR.out.cell 14
      subst e1 e2
      clear c1 c2 hx hfv hfu hfv2 hfu2
      go_wp2_with fail
      go_quiet (fail)
      go_wp2
      go_roundw
      case rel => exact ⟨k + 1, hkl, by simp, HBR.out.trans ((cur_drew _ _).mono HBR.out.size)⟩
      case measure => simp [intOf]; omega
    · have p24 : wr.cell? ⟨w.heap.size, 24, none⟩ = some (.slice A2 m c2) := by rw [← hfv2]; exact HIR.out.cell 24
      clear HBR
      go_wp2_with fail
      go_loopw [68, 6] (fun i v w9 => InR wr m i w9) (fun i _ _ => m - (intOf i).toNat)
      case atStart => exact ⟨0, by omega, rfl, Below.refl _ _⟩
      case round =>
        obtain ⟨k2, hk2, rfl, hb⟩ := hrel
        have HBR := Lib.hid hb
        have HBY := Lib.hid (cur_step1 HBW.out hb)
        have HIY := Lib.hid (HIR.out.to hb)
        have HJY := Lib.hid (HJR.out.to hb)
        clear hb p24
        rename World => wy
        by_cases hkm : k2 < m
        · obtain ⟨b1, o1, e1, h1, l1, x1⟩ := (HV.out.to HBY.out).sb.at_ (by rw [boC_len, HM.out]) (by rw [HFV2.out, HM.out]) hkm
          obtain ⟨b2, o2, e2, h2, l2, x2⟩ := (HU.out.to HBY.out).sb.at_ (by rw [boC_len, HM.out]) (by rw [HFU2.out, HM.out]) hkm
          obtain ⟨x, hx⟩ : ∃ x, I.sb[k2]? = some x := ⟨_, List.getElem?_eq_getElem (by rw [HM.out]; exact hkm)⟩
          have y1 := x1 _ (boC_at hx)
          have y2 := x2 _ (boC_at hx)
          have p24 : wy.cell? ⟨w.heap.size, 24, none⟩ = some (.slice A2 m c2) := by rw [← hfv2]; exact HIY.out.cell 24
          have q24 : wy.cell? ⟨w.heap.size + 1, 24, none⟩ = some (.slice B2 m d2) := by rw [← hfu2]; exact HJY.out.cell 24
          subst e1 e2
          clear x1 x2 hx hfv hfu hfv2 hfu2
          go_wp2_with fail
          go_quiet (fail)
          go_wp2
          go_roundw
          case rel => exact ⟨k2 + 1, hkm, by simp, HBR.out.trans ((cur_drew _ _).mono HBR.out.size)⟩
          case measure => simp [intOf]; omega
        · obtain ⟨p0, p1, p2, p3, p4, p5, p6, p7, p8, p9, p10, p11, p12, p13, p14, p15, p16, p17, p18, p19, p20, p21, p22, p23, p24, p25, p26, p27⟩ := cells_of HIY.out
          obtain ⟨q0, q1, q2, q3, q4, q5, q6, q7, q8, q9, q10, q11, q12, q13, q14, q15, q16, q17, q18, q19, q20, q21, q22, q23, q24, q25, q26, q27⟩ := cells_of HJY.out
          clear hfv hfu hfv2 hfu2 HBR
          go_wp2_with fail
          go_ret
          exact ⟨rfl, HBY.out⟩
end Go.Proofs.Ytjlmlafiojpjmaa
