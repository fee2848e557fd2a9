/-
  Chapter 55: the reference's able.
-/
import Derived.Test.YtckbhdokfkabfaaRf55
set_option linter.unusedSimpArgs false
set_option linter.unusedVariables false
namespace Go.Proofs.Ytckbhdokfkabfaa
open Go.RowKit
set_option maxRecDepth 100000
set_option maxHeartbeats 8000000
/-- Indices of matches. -/
structure IdxOf (M : List Dty) (T : List Int) (S : List Dty) : Prop where
  len : T.length = S.length
  at_ : ∀ (k : Nat) (t : Int), T[k]? = some t → ∃ (i : Nat) (x : Dty), t = i ∧ M[i]? = some x ∧ S[k]? = some x
theorem able_r (A B C : Option Addr) (c d e : Nat) (M : List Dty) (U : List Ump) (T : List Int) (S : List Dty) (r : Nat) (w : World) (h : TaskR w A B M U) (hT : Rd iE 1 w w.heap.size C T) (hTl : T.length ≤ 1000) (hS : IdxOf M T S) (hv : ableF S U = r) :
    Calls Try.prog 45 #[.slice A M.length c, .slice B U.length d, .slice C T.length e] w fun e w' => e = .returned (.int .i64 r) ∧ Below w.heap.size w w' := by
  have HV := Lib.hid hv
  have HT := Lib.hid h
  have HTT := Lib.hid hT
  have HS := Lib.hid hS
  have hml := h.ml
  have hul := h.ul
  clear hv h hT hS
  go_enter Try.func45, Try.ntmps45
  go_wp2_with fail
  go_loopw [7, 14] (fun v iv wr => ∃ k : Nat, k ≤ U.length ∧ v = .int .i64 (ableF S (U.take k) : Nat) ∧ iv = .int .i64 k ∧ Below w.heap.size w wr) (fun _ i _ => U.length - (intOf i).toNat)
  case atStart => exact ⟨0, by omega, by simp [ableF], rfl, Below.refl _ _⟩
  case round =>
    obtain ⟨k, hk, rfl, rfl, hb⟩ := hrel
    rename World => wo
    have HB := Lib.hid hb
    clear hb
    by_cases hkl : k < U.length
    · obtain ⟨y, hy⟩ : ∃ y, U[k]? = some y := ⟨_, List.getElem?_eq_getElem hkl⟩
      have HYS := Lib.hid (HT.out.us y (List.mem_of_getElem? hy))
      have HYD := Lib.hid (HT.out.u.ds y (List.mem_of_getElem? hy))
      obtain ⟨b7, off7, hB7, hb7l, hcl7⟩ := HT.out.u.rd.at_ HB.out hy
      obtain ⟨e0, e1, e2⟩ := um_cells hcl7
      have hb7w : b7 < wo.heap.size := Nat.lt_of_lt_of_le hb7l HB.out.size
      have HNX := Lib.hid (able_next (S := S) hy)
      obtain ⟨F, hF⟩ : ∃ F, ableF S (U.take k) = F := ⟨_, rfl⟩
      have HFl := Lib.hid (show F ≤ 1000 by rw [← hF]; have := able_le S (U.take k); rw [List.length_take] at this; omega)
      rw [hF] at HNX ⊢
      have hFl := HFl.out
      have HMAY := Lib.hid (fun (x : Dty) (v : Bool) w' (hb : Below w.heap.size w w') (hv : mayB x y = v) => may_r x y v w' HYS.out.2.2 (HYD.out.to hb) hv)
      obtain ⟨yn, yt, ys, yA, yc⟩ := y
      dsimp only at e0 e1 e2
      simp only [umE, dtE] at HMAY
      obtain ⟨yl, hyl⟩ : ∃ q, ys.length = q := ⟨_, rfl⟩
      rw [hyl] at e2
      simp only [hyl] at HMAY
      rw [hB7]
      clear hcl7 hy hF hyl HYD HYS hB7
      go_wp2_with fail
      have h2 := cur_new wo (.cells #[.string yn, .string yt, .slice yA yl yc] 32)
      have k2 := Blk.new wo 32 [.string yn, .string yt, .slice yA yl yc]
      change Code.wp _ _ _ _ (wo.alloc (.cells #[.string yn, .string yt, .slice yA yl yc] 32))
      generalize wo.alloc (.cells #[.string yn, .string yt, .slice yA yl yc] 32) = w2 at h2 k2 ⊢
      have HB2 := Lib.hid (cur_step1 HB.out h2)
      obtain ⟨g, hg⟩ : ∃ g, wo.heap.size = g := ⟨_, rfl⟩
      rw [hg] at k2 ⊢
      have HK2 := Lib.hid k2
      clear h2 k2 hg e0 e1 e2 hb7w HB hb7l
      go_loopw [7, 20] (fun v iv wr => ∃ t : Nat, t ≤ T.length ∧ v = .int .i64 F ∧ iv = .int .i64 t ∧ (∀ (j : Nat) (x : Dty), j < t → S[j]? = some x → mayB x ⟨yn, yt, ys, yA, yc⟩ = false) ∧ Below w2.heap.size w2 wr) (fun _ i _ => T.length - (intOf i).toNat)
      case atStart => exact ⟨0, by omega, rfl, rfl, fun j x h => by omega, Below.refl _ _⟩
      case round =>
        obtain ⟨t, ht, rfl, rfl, hno, hb⟩ := hrel
        rename World => wi
        have HNO := Lib.hid hno
        have HBI := Lib.hid (cur_step1 HB2.out hb)
        have HB1 := Lib.hid hb
        have HK := Lib.hid (HK2.out.to hb)
        clear hno hb
        by_cases htl : t < T.length
        · obtain ⟨n, hn⟩ : ∃ n, T[t]? = some n := ⟨_, List.getElem?_eq_getElem htl⟩
          obtain ⟨i, x, rfl, hx, hsx⟩ := HS.out.at_ t n hn
          obtain ⟨b3, off3, hC3, hb3l, c3⟩ := rdi_at HTT.out HBI.out hn
          obtain ⟨b4, off4, hA4, hb4l, hcl4⟩ := HT.out.m.at_ HBI.out hx
          obtain ⟨p0, p1, p2, p3⟩ := dt_cells hcl4
          have hil : i < M.length := (List.getElem?_eq_some_iff.1 hx).1
          have hb4w : b4 < wi.heap.size := Nat.lt_of_lt_of_le hb4l HBI.out.size
          obtain ⟨xm, xd, xh, xa⟩ := x
          dsimp only at p0 p1 p2 p3
          obtain ⟨v, hv⟩ : ∃ v, mayB ⟨xm, xd, xh, xa⟩ ⟨yn, yt, ys, yA, yc⟩ = v := ⟨_, rfl⟩
          have HW := Lib.hid (fun w' hb => HMAY.out ⟨xm, xd, xh, xa⟩ v w' hb hv)
          dsimp only at HW
          obtain ⟨q0, q1, q2⟩ : wi.cell? ⟨g, 0, none⟩ = some (.string yn) ∧ wi.cell? ⟨g, 1, none⟩ = some (.string yt) ∧ wi.cell? ⟨g, 2, none⟩ = some (.slice yA yl yc) := ⟨HK.out.cell 0, HK.out.cell 1, HK.out.cell 2⟩
          have l4 := HK.out.lt
          have HSX := Lib.hid hsx
          have HMV := Lib.hid hv
          rw [hC3, hA4]
          have HCE := Lib.hid hC3
          have HAE := Lib.hid hA4
          clear hn hx hcl4 hsx hv hC3 hA4 hb3l hb4l
          go_upto_region 8 with (fail)
          have hii : (0 : Int) ≤ (i : Int) := by omega
          go_region_held3 (fun w' => w'.cell? ⟨b4, off4 + i * 4, none⟩ = some (.int .i64 xm) ∧ w'.cell? ⟨b4, off4 + i * 4 + 1, none⟩ = some (.int .i64 xd) ∧ w'.cell? ⟨b4, off4 + i * 4 + 2, none⟩ = some (.string xh) ∧ w'.cell? ⟨b4, off4 + i * 4 + 3, none⟩ = some (.string xa) ∧ w'.cell? ⟨g, 0, none⟩ = some (.string yn) ∧ w'.cell? ⟨g, 1, none⟩ = some (.string yt) ∧ w'.cell? ⟨g, 2, none⟩ = some (.slice yA yl yc))
            (first
              | (go_keep; done)
              | exact HKP.out)
            ((go_at_call 13; refine (HW.out _ HBI.out.drew).mono ?_; rintro e w8 ⟨rfl, hb8⟩; have HB8 := Lib.hid (cur_step1 HB1.out.drew hb8); have HKP := Lib.hid (show w8.cell? ⟨b4, off4 + i * 4, none⟩ = some (.int .i64 xm) ∧ w8.cell? ⟨b4, off4 + i * 4 + 1, none⟩ = some (.int .i64 xd) ∧ w8.cell? ⟨b4, off4 + i * 4 + 2, none⟩ = some (.string xh) ∧ w8.cell? ⟨b4, off4 + i * 4 + 3, none⟩ = some (.string xa) ∧ w8.cell? ⟨g, 0, none⟩ = some (.string yn) ∧ w8.cell? ⟨g, 1, none⟩ = some (.string yt) ∧ w8.cell? ⟨g, 2, none⟩ = some (.slice yA yl yc) from ⟨(hb8.cell (p := ⟨b4, off4 + i * 4, none⟩) hb4w).trans p0, (hb8.cell (p := ⟨b4, off4 + i * 4 + 1, none⟩) hb4w).trans p1, (hb8.cell (p := ⟨b4, off4 + i * 4 + 2, none⟩) hb4w).trans p2, (hb8.cell (p := ⟨b4, off4 + i * 4 + 3, none⟩) hb4w).trans p3, (hb8.cell (p := ⟨g, 0, none⟩) l4).trans q0, (hb8.cell (p := ⟨g, 1, none⟩) l4).trans q1, (hb8.cell (p := ⟨g, 2, none⟩) l4).trans q2⟩); clear hb8))
          cases v
          · have HNN := Lib.hid (show ∀ (j : Nat) (x : Dty), j < t + 1 → S[j]? = some x → mayB x ⟨yn, yt, ys, yA, yc⟩ = false from fun j x hj hx => by
              by_cases e : j = t
              · rw [e, HSX.out] at hx
                injection hx with hx
                rw [← hx]; exact HMV.out
              · exact HNO.out j x (by omega) hx)
            go_wp2_with fail
            first
            | (go_roundw
               case rel => exact ⟨t + 1, htl, rfl, by simp, HNN.out, HB8.out⟩
               case measure => simp [intOf]; omega)
            | exact ⟨⟨t + 1, htl, by first | rfl | trivial, by simp, HNN.out, HB8.out⟩, by simp [intOf]; omega⟩
            | exact ⟨⟨t + 1, htl, by simp, HNN.out, HB8.out⟩, by simp [intOf]; omega⟩
          · have HAN := Lib.hid (show (S.any fun x => mayB x ⟨yn, yt, ys, yA, yc⟩) = true from List.any_eq_true.2 ⟨_, List.mem_of_getElem? HSX.out, HMV.out⟩)
            rw [HAN.out] at HNX
            have HBF := Lib.hid (cur_step1 HB2.out HB8.out)
            rw [← HCE.out, ← HAE.out]
            go_wp2_with fail
            first
            | (go_roundw
               case rel => exact ⟨k + 1, hkl, by rw [HNX.out]; simp, by simp, HBF.out⟩
               case measure => simp [intOf]; omega)
            | exact ⟨⟨k + 1, hkl, by rw [HNX.out]; simp, by simp, HBF.out⟩, by simp [intOf]; omega⟩
        · have HAN := Lib.hid (show (S.any fun x => mayB x ⟨yn, yt, ys, yA, yc⟩) = false from List.any_eq_false.2 fun x hx => by
            obtain ⟨j, hj, rfl⟩ := List.getElem_of_mem hx
            have h1 := HS.out.len
            simpa using HNO.out j _ (by omega) (List.getElem?_eq_getElem hj))
          rw [HAN.out] at HNX
          go_wp2_with fail
          first
          | (go_roundw
             case rel => exact ⟨k + 1, hkl, by rw [HNX.out]; simp, by simp, HBI.out⟩
             case measure => simp [intOf]; omega)
          | exact ⟨⟨k + 1, hkl, by rw [HNX.out]; simp, by simp, HBI.out⟩, by simp [intOf]; omega⟩
    · have HUF := Lib.hid (show U.take k = U from List.take_of_length_le (by omega))
      rw [HUF.out, HV.out]
      go_wp2_with fail
      go_ret
      exact ⟨rfl, HB.out⟩
end Go.Proofs.Ytckbhdokfkabfaa
