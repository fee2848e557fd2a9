/-
  Chapter 55: the reference's Refutes.
-/
import Derived.Test.YtckbhdokfkabfaaAbl55
import Derived.Deep.Onto
set_option linter.unusedSimpArgs false
set_option linter.unusedVariables false
namespace Go.Proofs.Ytckbhdokfkabfaa
open Go.RowKit
set_option maxRecDepth 100000
set_option maxHeartbeats 8000000
theorem own_nilI {w : World} : OwnL iE 1 3 w.heap.size (w.alloc (.cells #[] 3)) (.slice (some ⟨w.heap.size, 0, none⟩) ([] : List Int).length 0) [] := World.ownsRow_made w #[] 0 (Nat.le_refl _) (Nat.zero_le _) (by simp)
theorem own_more {α : Type} {enc : α → List Value} {size e B B' : Nat} {w : World} {v : Value} {l : List α} (h : OwnL enc size e B w v l) (hb : B' ≤ B) : OwnL enc size e B' w v l := World.ownsRow.mono h hb
theorem idx_of {M : List Dty} {N : List Int} (h : ∀ j, j < N.length → nfN M N j = 0) : IdxOf M (N.map (kof M)) (setN M N) := by
  refine ⟨by simp [setN], fun k t ht => ?_⟩
  rw [List.getElem?_map] at ht
  cases hn : N[k]? with
  | none => rw [hn] at ht; simp at ht
  | some n =>
    rw [hn] at ht
    simp only [Option.map_some, Option.some.injEq] at ht
    subst ht
    have hk := (List.getElem?_eq_some_iff.1 hn).1
    have h0 := h k hk
    rw [nf_of hn] at h0
    have hneg : ¬ kof M n < 0 := fun hlt => by rw [if_pos hlt] at h0; exact absurd h0 (by decide)
    obtain ⟨i, h1, h2⟩ := kof_at hneg
    exact ⟨i, dat M n, h1, h2, setN_at hn⟩
theorem refutes_r (A B C : Option Addr) (c d e : Nat) (M : List Dty) (U : List Ump) (N : List Int) (r : Int) (w : World) (h : TaskR w A B M U) (hN : Rd iE 1 w w.heap.size C N) (hNl : N.length ≤ 1000) (hv : refF M U N = r) :
    Calls Try.prog 22 #[.slice A M.length c, .slice B U.length d, .slice C N.length e] w fun e w' => e = .returned (.int .i64 r) ∧ Below w.heap.size w w' := by
  obtain ⟨q, hq⟩ : ∃ q, ckA M U = q := ⟨_, rfl⟩
  have HV := Lib.hid (show thenR q (rf1 M U N) = r by rw [← hq]; exact hv)
  have HC := Lib.hid (check_r A B c d M U q w h hq)
  have HT := Lib.hid h
  have HN := Lib.hid hN
  have hml := h.ml
  have hul := h.ul
  clear hq hv h hN
  go_enter Try.func22, Try.ntmps22
  go_wp2_with fail
  refine HC.out.mono ?_
  rintro e w1 ⟨rfl, hb1⟩
  have HB1 := Lib.hid hb1
  clear hb1 HC
  by_cases hq0 : q = 0
  · subst hq0
    have HV1 := Lib.hid (show rf1 M U N = r from HV.out)
    have HT1 := Lib.hid (HT.out.to HB1.out)
    have HN1 := Lib.hid (HN.out.to HB1.out)
    clear HV HT HN
    rcases Nat.eq_zero_or_pos N.length with h0 | h0
    · have HE := Lib.hid (show (1 : Int) = r by have := HV1.out; unfold rf1 at this; rw [if_pos h0] at this; exact this)
      have h00 : (N.length : Int) = 0 := by omega
      go_wp2_with fail
      go_ret
      exact ⟨ret_int HE.out, HB1.out⟩
    · have HV2 := Lib.hid (show rf2 M U N = r by have := HV1.out; unfold rf1 at this; rw [if_neg (by omega)] at this; exact this)
      have h00 : ¬ (N.length : Int) = 0 := by omega
      have HBN0 := Lib.hid (show badN N 0 = 0 by
        obtain ⟨n, hn⟩ : ∃ n, N[0]? = some n := ⟨_, List.getElem?_eq_getElem h0⟩
        simp [badN, hn, befN])
      clear HV1
      go_wp2_with fail
      try rw [show ((N.length : Int) == 0) = false from by simpa using h00]
      go_loopw [8] (fun iv wr => ∃ k : Nat, 1 ≤ k ∧ k ≤ N.length ∧ iv = .int .i64 k ∧ (∀ j, j < k → badN N j = 0) ∧ Below w1.heap.size w1 wr) (fun i _ => N.length - (intOf i).toNat)
      case atStart => exact ⟨1, by omega, by omega, rfl, fun j h => by rw [show j = 0 by omega]; exact HBN0.out, Below.refl _ _⟩
      case round =>
        obtain ⟨k, hk1, hk, rfl, hno, hb⟩ := hrel
        rename World => wo
        have HNO := Lib.hid hno
        have HB := Lib.hid hb
        clear hno hb
        by_cases hkl : k < N.length
        · obtain ⟨n, hn⟩ : ∃ n, N[k]? = some n := ⟨_, List.getElem?_eq_getElem hkl⟩
          obtain ⟨p, hp⟩ : ∃ p, k = p + 1 := ⟨k - 1, by omega⟩
          have hi : (k : Int) - 1 = (p : Int) := by omega
          have hpl : p < N.length := by omega
          obtain ⟨z, hz⟩ : ∃ z, N[p]? = some z := ⟨_, List.getElem?_eq_getElem hpl⟩
          obtain ⟨b, off, hC, hbl, c0⟩ := rdi_at HN1.out HB.out hn
          obtain ⟨b4, off4, hA4, _, cz⟩ := rdi_at HN1.out HB.out hz
          have hpd : (p : Int) < (N.length : Int) := by omega
          have hkd : (k : Int) < (N.length : Int) := by omega
          have hwr : IntKind.i64.wrap ((k : Int) - 1) = (p : Int) := by rw [IntWalk.i64_in _ (by omega)]; exact hi
          have hp0 : (0 : Int) ≤ (p : Int) := by omega
          have hk0 : (0 : Int) ≤ (k : Int) := by omega
          have hbw : b < wo.heap.size := Nat.lt_of_lt_of_le hbl HB.out.size
          have HBN := Lib.hid (show badN N k = if decide (n ≤ z) = true then 1 else 0 by rw [hp] at hn ⊢; simp [badN, hn, befN, hz])
          rw [hC] at hA4
          injection hA4 with hA4
          injection hA4 with h6 h7 _
          subst h6 h7
          rw [hC]
          have HCE := Lib.hid hC
          have HP := Lib.hid hp
          have HI := Lib.hid hi
          clear hp hz hn hC hi hbl
          cases hz4 : decide (n ≤ z)
          · have HNX := Lib.hid (show ∀ j, j < k + 1 → badN N j = 0 from fun j hj => by
              by_cases e : j = k
              · rw [e, HBN.out, hz4]; rfl
              · exact HNO.out j (by omega))
            go_upto_region 9 with (fail)
            go_quiet (fail)
            clear hwr
            go_wp2_with fail
            first
            | (go_roundw
               case rel => exact ⟨k + 1, by omega, by omega, by simp, HNX.out, below_drewN HB.out _⟩
               case measure => simp [intOf]; omega)
            | exact ⟨⟨k + 1, by omega, by omega, by simp, HNX.out, below_drewN HB.out _⟩, by simp [intOf]; omega⟩
          · have HE := Lib.hid (show (1 : Int) = r by
              have hb : badN N k = 1 := by rw [HBN.out, hz4]; rfl
              have := HV2.out
              unfold rf2 at this
              rw [res_then HNO.out hkl (by rw [hb]; decide), hb] at this
              exact this)
            have HBF := Lib.hid (cur_step1 HB1.out HB.out)
            go_upto_region 9 with (fail)
            go_quiet (fail)
            clear hwr
            go_wp2_with fail
            go_ret
            exact ⟨ret_int HE.out, below_drewN HBF.out _⟩
        · have HNA := Lib.hid (show ∀ j, j < N.length → badN N j = 0 from fun j hj => HNO.out j (by omega))
          have HV3 := Lib.hid (show rf3 M U N = r by have := HV2.out; unfold rf2 at this; rw [res_done HNA.out] at this; exact this)
          clear HNO HNA HV2
          go_wp2_with fail
          have HO0 := Lib.hid (own_nilI (w := wo))
          have h2 := cur_new wo (.cells #[] 3)
          generalize wo.alloc (.cells #[] 3) = w2 at HO0 h2 ⊢
          have HB2 := Lib.hid (cur_step1 HB.out h2)
          obtain ⟨g, hg⟩ : ∃ g, wo.heap.size = g := ⟨_, rfl⟩
          have HG := Lib.hid (show w1.heap.size ≤ g by rw [← hg]; exact HB.out.size)
          rw [hg] at HO0 ⊢
          clear h2 hg HB
          have HO1 := Lib.hid (own_more HO0.out HG.out)
          clear HO0
          go_loopw [9, 43] (fun v iv wr => ∃ (k : Nat) (A9 : Option Addr) (c9 : Nat), k ≤ N.length ∧ v = .slice A9 ((N.take k).map (kof M)).length c9 ∧ iv = .int .i64 k ∧ (∀ j, j < k → nfN M N j = 0) ∧ OwnL iE 1 3 w1.heap.size wr (.slice A9 ((N.take k).map (kof M)).length c9) ((N.take k).map (kof M)) ∧ Below w1.heap.size w1 wr) (fun _ i _ => N.length - (intOf i).toNat)
          case atStart => exact ⟨0, some ⟨g, 0, none⟩, 0, by omega, rfl, rfl, fun j h => by omega, HO1.out, HB2.out⟩
          case round =>
            clear HO1
            obtain ⟨k, A9, c9, hk, rfl, rfl, hno, ho, hb⟩ := hrel
            rename World => wp
            have HNO := Lib.hid hno
            have HO := Lib.hid ho
            have HBO := Lib.hid hb
            clear hno ho hb
            by_cases hkl : k < N.length
            · obtain ⟨n, hn⟩ : ∃ n, N[k]? = some n := ⟨_, List.getElem?_eq_getElem hkl⟩
              obtain ⟨b, off, hC, hbl, c0⟩ := rdi_at HN1.out HBO.out hn
              have HNX := Lib.hid (show (N.take (k + 1)).map (kof M) = (N.take k).map (kof M) ++ [kof M n] by rw [List.take_add_one, hn, Option.toList]; simp)
              have HNF := Lib.hid (nf_of (M := M) hn)
              have HKA := Lib.hid (fun h => kof_at (M := M) (n := n) h)
              obtain ⟨S, hS⟩ : ∃ S, (N.take k).map (kof M) = S := ⟨_, rfl⟩
              have HSl := Lib.hid (show S.length = k by rw [← hS, List.length_map, List.length_take]; omega)
              rw [hS] at HO HNX ⊢
              rw [hC]
              have HCE := Lib.hid hC
              have HIX := Lib.hid (index_r A c M n wp (by omega) (HT1.out.m.to HBO.out))
              rw [show fidx (fun x : Dty => x.m == n) M = kof M n from rfl] at HIX
              obtain ⟨K, hK⟩ : ∃ K, kof M n = K := ⟨_, rfl⟩
              rw [hK] at HIX HNF HKA HNX
              clear hC hn hS hK hbl
              by_cases hK0 : K < 0
              · have HE := Lib.hid (show (6 : Int) = r by
                  have hb : nfN M N k = 6 := by rw [HNF.out, if_pos hK0]
                  have := HV3.out
                  unfold rf3 at this
                  rw [res_then HNO.out hkl (by rw [hb]; decide), hb] at this
                  exact this)
                go_wp2_with (go_at_call 44; refine HIX.out.mono ?_; rintro e w3 ⟨rfl, hb3⟩; have HB3 := Lib.hid (cur_step1 HB1.out (cur_step1 HBO.out hb3)); clear hb3)
                go_ret
                exact ⟨ret_int HE.out, HB3.out⟩
              · have HNF0 := Lib.hid (show ∀ j, j < k + 1 → nfN M N j = 0 from fun j hj => by
                  by_cases e : j = k
                  · rw [e, HNF.out, if_neg hK0]
                  · exact HNO.out j (by omega))
                clear HKA HNF
                go_upto_region 18 with (go_at_call 44; refine HIX.out.mono ?_; rintro e w3 ⟨rfl, hb3⟩; have HB3 := Lib.hid (cur_step1 HBO.out hb3); have HO3 := Lib.hid (own_below HO.out hb3 (Nat.le_refl _)); clear hb3)
                obtain ⟨w4, hw4⟩ : ∃ W, w3.alloc (.cells (iE K).toArray 3) = W := ⟨_, rfl⟩
                have HB4 := Lib.hid (show Below w3.heap.size w3 w4 by rw [← hw4]; exact cur_new _ _)
                have HE4 := Lib.hid (show w4.heap[w3.heap.size]? = some (.cells (iE K).toArray 3 (0, 0)) by rw [← hw4]; exact heap_alloc_new _ _)
                have HBW := Lib.hid (show w1.heap.size ≤ w4.heap.size from Nat.le_trans HB3.out.size HB4.out.size)
                have S4 := Lib.hid hw4
                clear hw4
                go_upto_region 19 with (at_builtin; change wpList _ _ _ _ _ (w3.alloc (.cells (iE K).toArray 3)); rw [S4.out]; refine wpList_app1 Try.iElem w4 rfl (.tmp 52) (.tmp 54) rfl w1.heap.size A9 c9 S (by rfl) (own_below HO3.out HB4.out (Nat.le_refl _)) K w3.heap.size 1 (by rfl) HE4.out (by have := HSl.out; unfold maxLen; omega) (by have := HSl.out; omega) HBW.out ?_; intro g9 cap9 w9 ha; have HA9 := Lib.hid ha; clear ha)
                have HFA := Lib.hid (show Far (adB A9) w4 w9 from Far.grown HA9.out.grown (fun b hb => adB_own hb))
                have HB9 := Lib.hid (show Below w1.heap.size w1 w9 from (cur_step1 HB3.out HB4.out).trans (HFA.out.below HBW.out (fun y hy => (own_in HO3.out y hy).1)))
                have HO9 := Lib.hid (show OwnL iE 1 3 w1.heap.size w9 (.slice (some ⟨g9, 0, none⟩) (S.length + 1) cap9) (S ++ [K]) from HA9.out.one rfl)
                clear HA9 HFA HE4 S4 HIX
                go_wp2_with fail
                first
                | (go_roundw
                   case rel => exact ⟨k + 1, some ⟨g9, 0, none⟩, cap9, by omega, by rw [HNX.out, List.length_append]; rfl, by simp, HNF0.out, by rw [HNX.out, List.length_append]; exact HO9.out, HB9.out⟩
                   case measure => simp [intOf]; omega)
                | exact ⟨⟨k + 1, some ⟨g9, 0, none⟩, cap9, by omega, by rw [HNX.out, List.length_append]; rfl, by simp, HNF0.out, by rw [HNX.out, List.length_append]; exact HO9.out, HB9.out⟩, by simp [intOf]; omega⟩
            · have HS := Lib.hid (show N.take k = N from List.take_of_length_le (by omega))
              rw [HS.out] at HO
              have HNA := Lib.hid (show ∀ j, j < N.length → nfN M N j = 0 from fun j hj => HNO.out j (by omega))
              have HID := Lib.hid (idx_of HNA.out)
              have HV4 := Lib.hid (show rf4 (setN M N) U = r by have := HV3.out; unfold rf3 at this; rw [res_done HNA.out] at this; exact this)
              rw [HS.out]
              obtain ⟨S, hS⟩ : ∃ S, setN M N = S := ⟨_, rfl⟩
              have HSL := Lib.hid (show S.length = N.length by rw [← hS, setN_len])
              obtain ⟨T, hT⟩ : ∃ T, N.map (kof M) = T := ⟨_, rfl⟩
              have HTL := Lib.hid (show T.length = N.length by rw [← hT, List.length_map])
              rw [hS] at HID HV4
              rw [hT] at HID HO ⊢
              have HRT := Lib.hid (own_rd iE_len HO.out)
              have hTl : 0 < T.length := by rw [HTL.out]; exact h0
              have hTm : T.length ≤ 1000 := by rw [HTL.out]; exact hNl
              clear HS hS hT HO HNO HNA HV3
              obtain ⟨t0, ht0⟩ : ∃ x, T[0]? = some x := ⟨_, List.getElem?_eq_getElem hTl⟩
              obtain ⟨i0, y, rfl, hy, hsy⟩ := HID.out.at_ 0 t0 ht0
              obtain ⟨b9, off9, rfl, hb9, z1⟩ := rdi_at HRT.out (Below.refl _ _) ht0
              obtain ⟨b5, off5, hA5, hb5, hcl5⟩ := HT1.out.m.at_ HBO.out hy
              obtain ⟨_, z2, _, _⟩ := dt_cells hcl5
              obtain ⟨ym, yd, yh, ya⟩ := y
              dsimp only at z2
              simp only [Nat.add_zero] at z1
              have hb5w : b5 < wp.heap.size := Nat.lt_of_lt_of_le hb5 HBO.out.size
              have hil0 : i0 < M.length := (List.getElem?_eq_some_iff.1 hy).1
              have HSY := Lib.hid hsy
              have HZ := Lib.hid (show ∀ w', Below wp.heap.size wp w' → w'.cell? ⟨b9, off9, none⟩ = some (.int .i64 i0) ∧ w'.cell? ⟨b5, off5 + i0 * 4 + 1, none⟩ = some (.int .i64 yd) from fun w' hb => ⟨(hb.cell hb9).trans z1, (hb.cell hb5w).trans z2⟩)
              clear ht0 hy hsy hcl5 z1 z2 hb5w
              subst hA5
              go_wp2_with fail
              go_loopw [59] (fun iv wr => ∃ k : Nat, k ≤ T.length ∧ iv = .int .i64 k ∧ (∀ j, j < k → tmN S j = 0) ∧ Below wp.heap.size wp wr) (fun i _ => T.length - (intOf i).toNat)
              case atStart => exact ⟨0, by omega, rfl, fun j h => by omega, Below.refl _ _⟩
              case round =>
                obtain ⟨k, hk, rfl, hno, hb⟩ := hrel
                rename World => wi
                have HNO := Lib.hid hno
                have HB := Lib.hid hb
                clear hno hb
                by_cases hkl : k < T.length
                · obtain ⟨t, ht⟩ : ∃ x, T[k]? = some x := ⟨_, List.getElem?_eq_getElem hkl⟩
                  obtain ⟨i, x, rfl, hx, hsx⟩ := HID.out.at_ k t ht
                  obtain ⟨b8, off8, hA8, hb8, c8⟩ := rdi_at HRT.out HB.out ht
                  injection hA8 with hA8
                  injection hA8 with h6 h7 _
                  subst h6 h7
                  obtain ⟨b6, off6, hA6, hb6, hcl6⟩ := HT1.out.m.at_ (cur_step1 HBO.out HB.out) hx
                  injection hA6 with hA6
                  injection hA6 with h6 h7 _
                  subst h6 h7
                  obtain ⟨_, p1, _, _⟩ := dt_cells hcl6
                  obtain ⟨xm, xd, xh, xa⟩ := x
                  dsimp only at p1
                  have hil : i < M.length := (List.getElem?_eq_some_iff.1 hx).1
                  have HTM := Lib.hid (show tmN S k = if xd = yd then 0 else 15 by simp [tmN, hsx, HSY.out])
                  obtain ⟨z1, z2⟩ := HZ.out wi HB.out
                  have l9 : b9 < wi.heap.size := Nat.lt_of_lt_of_le hb9 HB.out.size
                  have l5 : b5 < wi.heap.size := Nat.lt_of_lt_of_le hb5 (Nat.le_trans HBO.out.size HB.out.size)
                  have i1 : (0 : Int) ≤ (i : Int) := by omega
                  have i2 : (i : Int) < (M.length : Int) := by omega
                  have i3 : (0 : Int) ≤ (i0 : Int) := by omega
                  have i4 : (i0 : Int) < (M.length : Int) := by omega
                  have i5 : (0 : Int) < (T.length : Int) := by omega
                  clear hcl6 hx hsx ht
                  by_cases hd : xd = yd
                  · have HNX := Lib.hid (show ∀ j, j < k + 1 → tmN S j = 0 from fun j hj => by
                      by_cases e : j = k
                      · rw [e, HTM.out, if_pos hd]
                      · exact HNO.out j (by omega))
                    have hde : (xd != yd) = false := by simp [hd]
                    have HD := Lib.hid hd
                    clear hd
                    go_upto_region 23 with (fail)
                    go_quiet (fail)
                    go_wp2_with fail
                    first
                    | (go_roundw
                       case rel => exact ⟨k + 1, hkl, by simp, HNX.out, below_drewN HB.out _⟩
                       case measure => simp [intOf]; omega)
                    | exact ⟨⟨k + 1, hkl, by simp, HNX.out, below_drewN HB.out _⟩, by simp [intOf]; omega⟩
                  · have HE := Lib.hid (show (15 : Int) = r by
                      have hb : tmN S k = 15 := by rw [HTM.out, if_neg hd]
                      have := HV4.out
                      unfold rf4 at this
                      rw [res_then HNO.out (by rw [HSL.out, ← HTL.out]; exact hkl) (by rw [hb]; decide), hb] at this
                      exact this)
                    have hde : (xd != yd) = true := by simp [hd]
                    have HD := Lib.hid hd
                    have HBF := Lib.hid (cur_step1 HB1.out (cur_step1 HBO.out HB.out))
                    clear hd
                    go_upto_region 23 with (fail)
                    go_quiet (fail)
                    go_wp2_with fail
                    go_ret
                    exact ⟨ret_int HE.out, below_drewN HBF.out _⟩
                · have HV5 := Lib.hid (show rf5 S U = r by have := HV4.out; unfold rf4 at this; rw [res_done (fun j hj => HNO.out j (by have h1 := HSL.out; have h2 := HTL.out; omega))] at this; exact this)
                  obtain ⟨F, hF⟩ : ∃ F, ableF S U = F := ⟨_, rfl⟩
                  have HTI := Lib.hid (HT1.out.to (cur_step1 HBO.out HB.out))
                  have HAB := Lib.hid (able_r (some ⟨b5, off5, none⟩) B (some ⟨b9, off9, none⟩) c d c9 M U T S F wi HTI.out (HRT.out.to HB.out) hTm HID.out hF)
                  have hFl : F ≤ 1000 := by rw [← hF]; have := able_le S U; omega
                  have HV6 := Lib.hid (show (if 2 * T.length ≤ F then (11 : Int) else 0) = r by have := HV5.out; unfold rf5 at this; rw [hF, HSL.out, ← HTL.out] at this; exact this)
                  have HBF := Lib.hid (cur_step1 HB1.out (cur_step1 HBO.out HB.out))
                  clear hF HB HV4 HNO HZ
                  by_cases hc : 2 * T.length ≤ F
                  · have HE := Lib.hid (show (11 : Int) = r by have := HV6.out; rw [if_pos hc] at this; exact this)
                    have hci : 2 * (T.length : Int) ≤ F := by omega
                    go_wp2_with (go_at_call 45; refine HAB.out.mono ?_; rintro e w3 ⟨rfl, hb3⟩; have HB3 := Lib.hid (cur_step1 HBF.out hb3); clear hb3)
                    go_ret
                    exact ⟨ret_int HE.out, HB3.out⟩
                  · have HE := Lib.hid (show (0 : Int) = r by have := HV6.out; rw [if_neg hc] at this; exact this)
                    have hci : ¬ 2 * (T.length : Int) ≤ F := by omega
                    go_wp2_with (go_at_call 45; refine HAB.out.mono ?_; rintro e w3 ⟨rfl, hb3⟩; have HB3 := Lib.hid (cur_step1 HBF.out hb3); clear hb3)
                    go_ret
                    exact ⟨ret_int HE.out, HB3.out⟩
  · have HE := Lib.hid (show q = r by rw [← HV.out, thenR_ne hq0])
    go_wp2_with fail
    go_ret
    exact ⟨ret_int HE.out, HB1.out⟩
end Go.Proofs.Ytckbhdokfkabfaa
