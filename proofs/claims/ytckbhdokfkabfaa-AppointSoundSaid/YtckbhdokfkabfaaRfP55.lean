/-
  Chapter 55: the program's Refutes.
-/
import Derived.Test.YtckbhdokfkabfaaRf55
set_option linter.unusedSimpArgs false
set_option linter.unusedVariables false
namespace Go.Proofs.Ytckbhdokfkabfaa
open Go.RowKit
set_option maxRecDepth 100000
set_option maxHeartbeats 8000000
theorem refutes_p (A B C : Option Addr) (c d e : Nat) (M : List Dty) (U : List Ump) (N : List Int) (r : Int) (w : World) (h : TaskR w A B M U) (hN : Rd iE 1 w w.heap.size C N) (hNl : N.length ≤ 1000) (hv : refF M U N = r) :
    Calls Try.prog 21 #[.slice A M.length c, .slice B U.length d, .slice C N.length e] w fun e w' => e = .returned (.int .i64 r) ∧ Below w.heap.size w w' := by
  obtain ⟨q, hq⟩ : ∃ q, ckA M U = q := ⟨_, rfl⟩
  have HV := Lib.hid (show thenR q (rf1 M U N) = r by rw [← hq]; exact hv)
  have HC := Lib.hid (check_p A B c d M U q w h hq)
  have HT := Lib.hid h
  have HN := Lib.hid hN
  have hml := h.ml
  have hul := h.ul
  clear hq hv h hN
  go_enter Try.func21, Try.ntmps21
  go_wp2_with fail
  refine HC.out.mono ?_
  rintro e w1 ⟨rfl, hb1⟩
  have HB1 := Lib.hid hb1
  clear hb1 HC
  by_cases hq0 : q = 0
  · subst hq0
    have HV1 := Lib.hid (show rf1 M U N = r from HV.out)
    have HT1 := Lib.hid (HT.out.to HB1.out)
    have HN1 := Lib.hid (HN.out.to HB1.out)
    clear HV HT HN
    go_wp2_with fail
    go_loopw [27] (fun iv wr => ∃ k : Nat, k ≤ N.length ∧ iv = .int .i64 k ∧ (∀ j, j < k → badN N j = 0) ∧ w1 = wr) (fun i _ => N.length - (intOf i).toNat)
    case atStart => exact ⟨0, by omega, rfl, fun j h => by omega, rfl⟩
    case round =>
      obtain ⟨k, hk, rfl, hno, rfl⟩ := hrel
      have HNO := Lib.hid hno
      clear hno
      by_cases hkl : k < N.length
      · obtain ⟨n, hn⟩ : ∃ n, N[k]? = some n := ⟨_, List.getElem?_eq_getElem hkl⟩
        obtain ⟨b, off, hC, hbl, c0⟩ := rdi_at HN1.out (Below.refl _ _) hn
        have HV2 := Lib.hid (show rf2 M U N = r by have := HV1.out; unfold rf1 at this; rw [if_neg (by omega)] at this; exact this)
        have HBN := Lib.hid (show badN N k = if befN N k n = true then 1 else 0 by simp [badN, hn])
        rw [hC]
        have HCE := Lib.hid hC
        clear hC hn
        rcases Nat.eq_zero_or_pos k with hk0 | hk0
        · subst hk0
          have HNX := Lib.hid (show ∀ j, j < 0 + 1 → badN N j = 0 from fun j hj => by
            obtain rfl : j = 0 := by omega
            rw [HBN.out]; rfl)
          simp only [Nat.add_zero] at c0
          go_wp2_with fail
          go_roundw
          case rel => exact ⟨0 + 1, hkl, by simp, HNX.out, trivial⟩
          case measure => simp [intOf] <;> omega
        · obtain ⟨p, hp⟩ : ∃ p, k = p + 1 := ⟨k - 1, by omega⟩
          have hi : (k : Int) - 1 = (p : Int) := by omega
          have hpl : p < N.length := by omega
          obtain ⟨z, hz⟩ : ∃ z, N[p]? = some z := ⟨_, List.getElem?_eq_getElem hpl⟩
          have hjd : decide ((0 : Int) < (k : Int)) = true := decide_eq_true (by omega)
          have hpd : decide ((p : Int) < (N.length : Int)) = true := decide_eq_true (by omega)
          have HBF := Lib.hid (show befN N k n = decide (n ≤ z) by rw [hp]; simp [befN, hz])
          obtain ⟨b4, off4, hA4, _, cz⟩ := rdi_at HN1.out (Below.refl _ _) hz
          rw [HCE.out] at hA4
          injection hA4 with hA4
          injection hA4 with h6 h7 _
          subst h6 h7
          have HP := Lib.hid hp
          clear hp hz
          cases hz4 : decide (n ≤ z)
          · have HNX := Lib.hid (show ∀ j, j < k + 1 → badN N j = 0 from fun j hj => by
              by_cases e : j = k
              · rw [e, HBN.out, HBF.out, hz4]; rfl
              · exact HNO.out j (by omega))
            go_wp2_with fail
            go_roundw
            case rel => exact ⟨k + 1, hkl, by simp, HNX.out, trivial⟩
            case measure => simp [intOf] <;> omega
          · have HE := Lib.hid (show (1 : Int) = r by
              have hb : badN N k = 1 := by rw [HBN.out, HBF.out, hz4]; rfl
              have := HV2.out
              unfold rf2 at this
              rw [res_then HNO.out hkl (by rw [hb]; decide), hb] at this
              exact this)
            go_wp2_with fail
            go_ret
            exact ⟨ret_int HE.out, HB1.out⟩
      · have HNA := Lib.hid (show ∀ j, j < N.length → badN N j = 0 from fun j hj => HNO.out j (by omega))
        clear HNO
        rcases Nat.eq_zero_or_pos N.length with h0 | h0
        · have HE := Lib.hid (show (1 : Int) = r by have := HV1.out; unfold rf1 at this; rw [if_pos h0] at this; exact this)
          have h00 : (N.length : Int) = 0 := by omega
          go_wp2_with fail
          go_ret
          exact ⟨ret_int HE.out, HB1.out⟩
        · have HV3 := Lib.hid (show rf3 M U N = r by have := HV1.out; unfold rf1 at this; rw [if_neg (by omega)] at this; unfold rf2 at this; rw [res_done HNA.out] at this; exact this)
          have h00 : ¬ (N.length : Int) = 0 := by omega
          go_wp2_with fail
          rw [show ((N.length : Int) == 0) = false from by simpa using h00]
          clear HV1
          go_loopw [10, 49] (fun v iv wr => ∃ (k : Nat) (A9 : Option Addr) (c9 : Nat), k ≤ N.length ∧ v = .slice A9 (setN M (N.take k)).length c9 ∧ iv = .int .i64 k ∧ (∀ j, j < k → nfN M N j = 0) ∧ OwnL dtE 4 29 w1.heap.size wr (.slice A9 (setN M (N.take k)).length c9) (setN M (N.take k)) ∧ Below w1.heap.size w1 wr) (fun _ i _ => N.length - (intOf i).toNat)
          case atStart => exact ⟨0, none, 0, by omega, rfl, rfl, fun j h => by omega, World.ownsRow_nil _ _ _ _, Below.refl _ _⟩
          case round =>
            obtain ⟨k, A9, c9, hk, rfl, rfl, hno, ho, hb⟩ := hrel
            rename World => wo
            have HNO := Lib.hid hno
            have HO := Lib.hid ho
            have HBO := Lib.hid hb
            clear hno ho hb
            by_cases hkl : k < N.length
            · obtain ⟨n, hn⟩ : ∃ n, N[k]? = some n := ⟨_, List.getElem?_eq_getElem hkl⟩
              obtain ⟨b, off, hC, hbl, c0⟩ := rdi_at HN1.out HBO.out hn
              have hbw : b < wo.heap.size := Nat.lt_of_lt_of_le hbl HBO.out.size
              have HNX := Lib.hid (setN_next (M := M) hn)
              have HNF := Lib.hid (nf_of (M := M) hn)
              have HKA := Lib.hid (fun h => kof_at (M := M) (n := n) h)
              obtain ⟨S, hS⟩ : ∃ S, setN M (N.take k) = S := ⟨_, rfl⟩
              have HSl := Lib.hid (show S.length = k by rw [← hS, setN_len, List.length_take]; omega)
              rw [hS] at HO HNX ⊢
              rw [hC]
              clear hC hn hS
              go_upto_region 16 with (fail)
              have h2 := cur_new wo (.cells #[.int .i64 n] 3)
              have k2 := Blk.new wo 3 [.int .i64 n]
              change Code.wp _ _ _ _ (wo.alloc (.cells #[.int .i64 n] 3))
              have HO2 := Lib.hid (show OwnL dtE 4 29 w1.heap.size (wo.alloc (.cells #[.int .i64 n] 3)) (.slice A9 S.length c9) S from own_below HO.out h2 (Nat.le_refl _))
              generalize wo.alloc (.cells #[.int .i64 n] 3) = w2 at h2 k2 HO2 ⊢
              have HB2 := Lib.hid (cur_step1 HBO.out h2)
              obtain ⟨g, hg⟩ : ∃ g, wo.heap.size = g := ⟨_, rfl⟩
              rw [hg] at k2 ⊢
              have HIX := Lib.hid (idx1_p A c M g (fun x => x.m == n) w2 (by omega) (HT1.out.m.to HB2.out) (fun x w' hx hb => lit1_p x n g _ w' ((k2.to hb).cell 0) (k2.to hb).lt rfl))
              rw [show fidx (fun x : Dty => x.m == n) M = kof M n from rfl] at HIX
              obtain ⟨K, hK⟩ : ∃ K, kof M n = K := ⟨_, rfl⟩
              rw [hK] at HIX HNF HKA
              clear h2 k2 hg hK c0 hbw hbl
              by_cases hK0 : K < 0
              · have HE := Lib.hid (show (6 : Int) = r by
                  have hb : nfN M N k = 6 := by rw [HNF.out, if_pos hK0]
                  have := HV3.out
                  unfold rf3 at this
                  rw [res_then HNO.out hkl (by rw [hb]; decide), hb] at this
                  exact this)
                go_wp2_with (go_at_call 40; refine HIX.out.mono ?_; rintro e w3 ⟨rfl, hb3⟩; have HB3 := Lib.hid (cur_step1 HB1.out (cur_step1 HB2.out hb3)); clear hb3)
                go_ret
                exact ⟨ret_int HE.out, HB3.out⟩
              · obtain ⟨i, hi, hx⟩ := HKA.out hK0
                subst hi
                have HNF0 := Lib.hid (show ∀ j, j < k + 1 → nfN M N j = 0 from fun j hj => by
                  by_cases e : j = k
                  · rw [e, HNF.out, if_neg hK0]
                  · exact HNO.out j (by omega))
                have hil : i < M.length := (List.getElem?_eq_some_iff.1 hx).1
                clear HKA HNF
                obtain ⟨b5, off5, hA5, hb5l, hcl5⟩ := HT1.out.m.at_ (Below.refl _ _) hx
                have HX5 := Lib.hid hx
                obtain ⟨x, hxe⟩ : ∃ x, dat M n = x := ⟨_, rfl⟩
                rw [hxe] at hcl5 HNX
                obtain ⟨xm, xd, xh, xa⟩ := x
                obtain ⟨p0, p1, p2, p3⟩ := dt_cells hcl5
                dsimp only at p0 p1 p2 p3
                have HP := Lib.hid (show ∀ w', Below w1.heap.size w1 w' → (w'.cell? ⟨b5, off5 + i * 4, none⟩ = some (.int .i64 xm) ∧ w'.cell? ⟨b5, off5 + i * 4 + 1, none⟩ = some (.int .i64 xd) ∧ w'.cell? ⟨b5, off5 + i * 4 + 2, none⟩ = some (.string xh) ∧ w'.cell? ⟨b5, off5 + i * 4 + 3, none⟩ = some (.string xa)) ∧ b5 < w'.heap.size from fun w' hb => ⟨⟨(hb.cell hb5l).trans p0, (hb.cell hb5l).trans p1, (hb.cell hb5l).trans p2, (hb.cell hb5l).trans p3⟩, Nat.lt_of_lt_of_le hb5l hb.size⟩)
                have HA5 := Lib.hid hA5
                rw [hA5] at HIX ⊢
                clear hcl5 p0 p1 p2 p3 hx hA5 hxe
                go_upto_region 19 with (go_at_call 40; refine HIX.out.mono ?_; rintro e w3 ⟨rfl, hb3⟩; have HB3 := Lib.hid (cur_step1 HB2.out hb3); have HO3 := Lib.hid (own_below HO2.out hb3 (Nat.le_refl _)); clear hb3)
                obtain ⟨⟨p0, p1, p2, p3⟩, p4⟩ := HP.out w3 HB3.out
                obtain ⟨w4, hw4⟩ : ∃ W, w3.alloc (.cells (dtE ⟨xm, xd, xh, xa⟩).toArray 29) = W := ⟨_, rfl⟩
                have HB4 := Lib.hid (show Below w3.heap.size w3 w4 by rw [← hw4]; exact cur_new _ _)
                have HE4 := Lib.hid (show w4.heap[w3.heap.size]? = some (.cells (dtE ⟨xm, xd, xh, xa⟩).toArray 29 (0, 0)) by rw [← hw4]; exact heap_alloc_new _ _)
                have HBW := Lib.hid (show w1.heap.size ≤ w4.heap.size from Nat.le_trans HB3.out.size HB4.out.size)
                have S4 := Lib.hid hw4
                clear hw4
                go_upto_region 20 with (at_builtin; change wpList _ _ _ _ _ (w3.alloc (.cells (dtE ⟨xm, xd, xh, xa⟩).toArray 29)); rw [S4.out]; refine wpList_app1 Try.dtElem w4 rfl (.tmp 58) (.tmp 63) rfl w1.heap.size A9 c9 S (by rfl) (own_below HO3.out HB4.out (Nat.le_refl _)) ⟨xm, xd, xh, xa⟩ w3.heap.size 1 (by rfl) HE4.out (by have := HSl.out; unfold maxLen; omega) (by have := HSl.out; omega) HBW.out ?_; intro g9 cap9 w9 ha; have HA9 := Lib.hid ha; clear ha)
                have HFA := Lib.hid (show Far (adB A9) w4 w9 from Far.grown HA9.out.grown (fun b hb => adB_own hb))
                have HB9 := Lib.hid (show Below w1.heap.size w1 w9 from (cur_step1 HB3.out HB4.out).trans (HFA.out.below HBW.out (fun y hy => (own_in HO3.out y hy).1)))
                have HO9 := Lib.hid (show OwnL dtE 4 29 w1.heap.size w9 (.slice (some ⟨g9, 0, none⟩) (S.length + 1) cap9) (S ++ [⟨xm, xd, xh, xa⟩]) from HA9.out.one rfl)
                rw [← HA5.out]
                clear HA9 HFA HE4 S4 HIX HP p0 p1 p2 p3 p4
                go_wp2_with fail
                go_roundw
                case rel => exact ⟨k + 1, some ⟨g9, 0, none⟩, cap9, by omega, by rw [HNX.out, List.length_append]; rfl, by simp, HNF0.out, by rw [HNX.out, List.length_append]; exact HO9.out, HB9.out⟩
                case measure => simp [intOf]; omega
            · have HS := Lib.hid (show setN M (N.take k) = setN M N by rw [List.take_of_length_le (by omega)])
              rw [HS.out] at HO
              have HSL := Lib.hid (setN_len M N)
              have HV4 := Lib.hid (show rf4 (setN M N) U = r by have := HV3.out; unfold rf3 at this; rw [res_done (fun j hj => HNO.out j (by omega))] at this; exact this)
              rw [HS.out]
              obtain ⟨S, hS⟩ : ∃ S, setN M N = S := ⟨_, rfl⟩
              rw [hS] at HO HSL HV4 ⊢
              have HRS := Lib.hid (own_rd dtE_len HO.out)
              have hSl : 0 < S.length := by rw [HSL.out]; exact h0
              have hSm : S.length ≤ 1000 := by rw [HSL.out]; exact hNl
              clear HS hS HO HNO HSL
              obtain ⟨⟨ym, yd, yh, ya⟩, hy0⟩ : ∃ x, S[0]? = some x := ⟨_, List.getElem?_eq_getElem hSl⟩
              obtain ⟨b9, off9, rfl, hb9, hcl9⟩ := HRS.out.at_ (Below.refl _ _) hy0
              obtain ⟨_, z1, _, _⟩ := dt_cells hcl9
              simp only [Nat.zero_mul, Nat.add_zero] at z1
              have HY0 := Lib.hid hy0
              have HZ1 := Lib.hid (show ∀ w', Below wo.heap.size wo w' → w'.cell? ⟨b9, off9 + 1, none⟩ = some (.int .i64 yd) from fun w' hb => (hb.cell hb9).trans z1)
              have HS0 := Lib.hid (show (0 : Int) < (S.length : Int) by omega)
              clear hy0 hcl9 z1
              go_wp2_with fail
              go_loopw [68] (fun iv wr => ∃ k : Nat, k ≤ S.length ∧ iv = .int .i64 k ∧ (∀ j, j < k → tmN S j = 0) ∧ Below wo.heap.size wo wr) (fun i _ => S.length - (intOf i).toNat)
              case atStart => exact ⟨0, by omega, rfl, fun j h => by omega, Below.refl _ _⟩
              case round =>
                obtain ⟨k, hk, rfl, hno, hb⟩ := hrel
                rename World => wi
                have HNO := Lib.hid hno
                have HB := Lib.hid hb
                clear hno hb
                by_cases hkl : k < S.length
                · obtain ⟨⟨xm, xd, xh, xa⟩, hx⟩ : ∃ x, S[k]? = some x := ⟨_, List.getElem?_eq_getElem hkl⟩
                  obtain ⟨b8, off8, hA8, hb8, hcl8⟩ := HRS.out.at_ HB.out hx
                  injection hA8 with hA8
                  injection hA8 with h6 h7 _
                  subst h6 h7
                  obtain ⟨p0, p1, p2, p3⟩ := dt_cells hcl8
                  dsimp only at p0 p1 p2 p3
                  have hb9w : b9 < wi.heap.size := Nat.lt_of_lt_of_le hb9 HB.out.size
                  have HTM := Lib.hid (show tmN S k = if xd = yd then 0 else 15 by simp [tmN, hx, HY0.out])
                  clear hcl8 hx
                  go_upto_region 24 with (fail)
                  have h2 := cur_new wi (.cells #[.int .i64 xm, .int .i64 xd, .string xh, .string xa] 29)
                  have k2 := Blk.new wi 29 [.int .i64 xm, .int .i64 xd, .string xh, .string xa]
                  generalize wi.alloc (.cells #[.int .i64 xm, .int .i64 xd, .string xh, .string xa] 29) = wn at h2 k2 ⊢
                  have HBN := Lib.hid (cur_step1 HB.out h2)
                  obtain ⟨g, hg⟩ : ∃ g, wi.heap.size = g := ⟨_, rfl⟩
                  rw [hg] at k2 ⊢
                  have d1 : wn.cell? ⟨g, 1, none⟩ = some (.int .i64 xd) := k2.cell 1
                  have dl := k2.lt
                  have z1 := HZ1.out wn HBN.out
                  have z2 : b9 < wn.heap.size := Nat.lt_of_lt_of_le hb9 HBN.out.size
                  have z0 := HS0.out
                  clear h2 k2 hg p0 p1 p2 p3 hb9w
                  by_cases hd : xd = yd
                  · have HNX := Lib.hid (show ∀ j, j < k + 1 → tmN S j = 0 from fun j hj => by
                      by_cases e : j = k
                      · rw [e, HTM.out, if_pos hd]
                      · exact HNO.out j (by omega))
                    have hde : (xd != yd) = false := by simp [hd]
                    have HD := Lib.hid hd
                    clear hd
                    go_quiet (fail)
                    go_wp2_with fail
                    go_roundw
                    case rel => exact ⟨k + 1, hkl, by simp, HNX.out, below_drewN HBN.out _⟩
                    case measure => simp [intOf]; omega
                  · have HE := Lib.hid (show (15 : Int) = r by
                      have hb : tmN S k = 15 := by rw [HTM.out, if_neg hd]
                      have := HV4.out
                      unfold rf4 at this
                      rw [res_then HNO.out hkl (by rw [hb]; decide), hb] at this
                      exact this)
                    have hde : (xd != yd) = true := by simp [hd]
                    have HD := Lib.hid hd
                    have HBF := Lib.hid (cur_step1 HB1.out (cur_step1 HBO.out HBN.out))
                    clear hd
                    go_quiet (fail)
                    go_wp2_with fail
                    go_ret
                    exact ⟨ret_int HE.out, below_drewN HBF.out _⟩
                · have HV5 := Lib.hid (show rf5 S U = r by have := HV4.out; unfold rf4 at this; rw [res_done (fun j hj => HNO.out j (by omega))] at this; exact this)
                  have HBI := Lib.hid (cur_step1 HBO.out HB.out)
                  have HRI := Lib.hid (HRS.out.to HB.out)
                  have HTI := Lib.hid (HT1.out.to HBI.out)
                  clear HV4 HNO HB HZ1 HY0
                  go_wp2_with fail
                  go_loopw [16, 82] (fun v iv wr => ∃ k : Nat, k ≤ U.length ∧ v = .int .i64 (ableF S (U.take k) : Nat) ∧ iv = .int .i64 k ∧ Below wi.heap.size wi wr) (fun _ i _ => U.length - (intOf i).toNat)
                  case atStart => exact ⟨0, by omega, by simp [ableF], rfl, Below.refl _ _⟩
                  case round =>
                    obtain ⟨k, hk, rfl, rfl, hb⟩ := hrel
                    rename World => wj
                    have HB := Lib.hid hb
                    clear hb
                    by_cases hkl : k < U.length
                    · obtain ⟨y, hy⟩ : ∃ y, U[k]? = some y := ⟨_, List.getElem?_eq_getElem hkl⟩
                      have HYS := Lib.hid (HTI.out.us y (List.mem_of_getElem? hy))
                      have HYD := Lib.hid ((HTI.out.u.ds y (List.mem_of_getElem? hy)).to HB.out)
                      obtain ⟨b7, off7, hB7, hb7l, hcl7⟩ := HTI.out.u.rd.at_ HB.out hy
                      obtain ⟨e0, e1, e2⟩ := um_cells hcl7
                      have hb7w : b7 < wj.heap.size := Nat.lt_of_lt_of_le hb7l HB.out.size
                      obtain ⟨v, hv⟩ : ∃ v, (S.any fun x => mayB x y) = v := ⟨_, rfl⟩
                      have HNX := Lib.hid (show ableF S (U.take (k + 1)) = ableF S (U.take k) + (if v = true then 1 else 0) by rw [able_next hy, hv])
                      obtain ⟨F, hF⟩ : ∃ F, ableF S (U.take k) = F := ⟨_, rfl⟩
                      have HFl := Lib.hid (show F ≤ 1000 by rw [← hF]; have := able_le S (U.take k); rw [List.length_take] at this; omega)
                      rw [hF] at HNX ⊢
                      have hFl := HFl.out
                      have h2 := cur_new wj (.cells (umE y).toArray 32)
                      have k2 := Blk.new wj 32 (umE y)
                      obtain ⟨wn, hwn⟩ : ∃ W, wj.alloc (.cells (umE y).toArray 32) = W := ⟨_, rfl⟩
                      rw [hwn] at h2 k2
                      have HBN := Lib.hid (cur_step1 HB.out h2)
                      have HCT := Lib.hid (cont2_p (some ⟨b9, off9, none⟩) c9 S y wj.heap.size v wn (by omega) (HRI.out.to HBN.out) k2 HYS.out.2.2 (HYD.out.to h2) hv)
                      have SN := Lib.hid hwn
                      obtain ⟨yn, yt, ys, yA, yc⟩ := y
                      dsimp only at e0 e1 e2
                      simp only [umE] at SN
                      obtain ⟨yl, hyl⟩ : ∃ q, ys.length = q := ⟨_, rfl⟩
                      rw [hyl] at e2 SN
                      rw [hB7]
                      have HB7 := Lib.hid hB7
                      clear hcl7 hy hv hF h2 k2 hwn hyl HYD HYS hB7
                      go_upto_region 31 with (fail)
                      change Code.wp _ _ _ _ (wj.alloc (.cells #[.string yn, .string yt, .slice yA yl yc] 32))
                      rw [SN.out]
                      cases v
                      · go_wp2_with (go_at_call 42; refine HCT.out.mono ?_; rintro e w3 ⟨rfl, hb3⟩; have HB3 := Lib.hid (cur_step1 HBN.out hb3); clear hb3)
                        go_roundw
                        case rel => exact ⟨k + 1, by omega, by rw [HNX.out]; simp, by simp, HB3.out⟩
                        case measure => simp [intOf]; omega
                      · go_wp2_with (go_at_call 42; refine HCT.out.mono ?_; rintro e w3 ⟨rfl, hb3⟩; have HB3 := Lib.hid (cur_step1 HBN.out hb3); clear hb3)
                        go_roundw
                        case rel => exact ⟨k + 1, by omega, by rw [HNX.out]; simp, by simp, HB3.out⟩
                        case measure => simp [intOf]; omega
                    · have HUF := Lib.hid (show U.take k = U from List.take_of_length_le (by omega))
                      rw [HUF.out]
                      obtain ⟨F, hF⟩ : ∃ F, ableF S U = F := ⟨_, rfl⟩
                      have hFl : F ≤ 1000 := by rw [← hF]; have := able_le S U; omega
                      have HV6 := Lib.hid (show (if 2 * S.length ≤ F then (11 : Int) else 0) = r by have := HV5.out; unfold rf5 at this; rw [hF] at this; exact this)
                      have HBF := Lib.hid (cur_step1 HB1.out (cur_step1 HBI.out HB.out))
                      rw [hF]
                      clear hF HUF HB
                      by_cases hc : 2 * S.length ≤ F
                      · have HE := Lib.hid (show (11 : Int) = r by have := HV6.out; rw [if_pos hc] at this; exact this)
                        have hci : 2 * (S.length : Int) ≤ F := by omega
                        go_wp2_with fail
                        go_ret
                        exact ⟨ret_int HE.out, HBF.out⟩
                      · have HE := Lib.hid (show (0 : Int) = r by have := HV6.out; rw [if_neg hc] at this; exact this)
                        have hci : ¬ 2 * (S.length : Int) ≤ F := by omega
                        go_wp2_with fail
                        go_ret
                        exact ⟨ret_int HE.out, HBF.out⟩
  · have HE := Lib.hid (show q = r by rw [← HV.out, thenR_ne hq0])
    go_wp2_with fail
    go_ret
    exact ⟨ret_int HE.out, HB1.out⟩
end Go.Proofs.Ytckbhdokfkabfaa
