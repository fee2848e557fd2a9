/-
  Chapter 55: the reference's complete and Appoint.
-/
import Derived.Test.YtckbhdokfkabfaaBsQ55
set_option linter.unusedSimpArgs false
set_option linter.unusedVariables false
namespace Go.Proofs.Ytckbhdokfkabfaa
open Go.RowKit
set_option maxRecDepth 100000
set_option maxHeartbeats 8000000
def sE (s : ByteArray) : List Value := [.string s]
theorem sE_len (s : ByteArray) : (sE s).length = 1 := rfl
theorem Try.sElem : ElemOf Try.prog sE 1 16 99 9 := .mk' (show (Try.prog.info? 9).map (fun i => (i.zero, i.size, i.bytes)) = some (some (.string ⟨#[]⟩), 1, 16) by kernel_rfl) rfl Try.underlying99 (by decide) sE_len (fun x u hu => by simp [sE] at hu; subst hu; rfl)
def frB (M : List Dty) (L : List Apd) (x : Dty) (y : Ump) : Bool := mayB x y && !takB M L L.length x.d y.nm
def freeN (M : List Dty) (U : List Ump) (L : List Apd) (x : Dty) (k : Nat) : List ByteArray := ((U.take k).filter (frB M L x)).map Ump.nm
theorem freeN_next {M : List Dty} {U : List Ump} {L : List Apd} {x : Dty} {k : Nat} {y : Ump} (h : U[k]? = some y) : freeN M U L x (k + 1) = freeN M U L x k ++ if frB M L x y = true then [y.nm] else [] := by
  unfold freeN
  rw [List.take_add_one, h, List.filter_append, List.map_append]
  simp only [Option.toList]
  rw [List.filter_cons]
  split <;> rfl
theorem freeN_len (M : List Dty) (U : List Ump) (L : List Apd) (x : Dty) (k : Nat) : (freeN M U L x k).length ≤ k := by
  unfold freeN
  rw [List.length_map]
  refine Nat.le_trans (List.length_filter_le _ _) ?_
  rw [List.length_take]
  omega
def nmF (F : List ByteArray) (a : Nat) : ByteArray := F[a]?.getD ⟨#[]⟩
def nx (L : List Apd) (x : Dty) (F : List ByteArray) (a b : Nat) : List Apd := L ++ [⟨x.m, nmF F a, nmF F b⟩]
/-- What complete answers: the first pair in their order with a full appointment. -/
def Cmp (M : List Dty) (U : List Ump) : Nat → List Apd → Option (List Apd) → Prop
  | 0, L, r => r = some L
  | n + 1, L, r => ∃ x, M[L.length]? = some x ∧
      ((∃ a b K, a < b ∧ b < (freeN M U L x U.length).length ∧ r = some K ∧ Cmp M U n (nx L x (freeN M U L x U.length) a b) (some K) ∧
        ∀ a' b', a' < b' → b' < (freeN M U L x U.length).length → (a' < a ∨ (a' = a ∧ b' < b)) → Cmp M U n (nx L x (freeN M U L x U.length) a' b') none) ∨
       (r = none ∧ ∀ a' b', a' < b' → b' < (freeN M U L x U.length).length → Cmp M U n (nx L x (freeN M U L x U.length) a' b') none))
theorem own_nilS {w : World} : OwnL sE 1 9 w.heap.size (w.alloc (.cells #[] 9)) (.slice (some ⟨w.heap.size, 0, none⟩) ([] : List ByteArray).length 0) [] := World.ownsRow_made w #[] 0 (Nat.le_refl _) (Nat.zero_le _) (by simp)
theorem own_nilA {w : World} : OwnL apE 3 43 w.heap.size (w.alloc (.cells #[] 43)) (.slice (some ⟨w.heap.size, 0, none⟩) ([] : List Apd).length 0) [] := World.ownsRow_made w #[] 0 (Nat.le_refl _) (Nat.zero_le _) (by simp)
theorem complete_r (A B : Option Addr) (c d : Nat) (M : List Dty) (U : List Ump) (h10 : M.length ≤ 10) : ∀ (n : Nat) (C : Option Addr) (e : Nat) (L : List Apd) (w : World), TaskR w A B M U → Rd apE 3 w w.heap.size C L → L.length + n = M.length →
    Calls Try.prog 38 #[.slice A M.length c, .slice B U.length d, .slice C L.length e] w fun r w' => (∃ A9 c9 o, r = .returned (.tuple #[.slice A9 (o.getD []).length c9, .bool o.isSome]) ∧ Rd apE 3 w' w'.heap.size A9 (o.getD []) ∧ Cmp M U n L o) ∧ Below w.heap.size w w' := by
  intro n
  induction n with
  | zero =>
    intro C e L w h hL hlen
    have HL := Lib.hid hL
    have hli : (L.length : Int) = (M.length : Int) := by omega
    clear h hL
    go_enter Try.func38, Try.ntmps38
    go_wp2_with fail
    go_ret2
    exact ⟨⟨C, e, some L, by simp, HL.out, rfl⟩, Below.refl _ _⟩
  | succ n ih =>
    intro C e L w h hL hlen
    have HIH := Lib.hid ih
    have HT := Lib.hid h
    have HL := Lib.hid hL
    have hml := h.ml
    have hul := h.ul
    obtain ⟨x, hx⟩ : ∃ x, M[L.length]? = some x := ⟨_, List.getElem?_eq_getElem (by omega)⟩
    have HX := Lib.hid hx
    have HCM := Lib.hid (show ∀ r, ((∃ a b K, a < b ∧ b < (freeN M U L x U.length).length ∧ r = some K ∧ Cmp M U n (nx L x (freeN M U L x U.length) a b) (some K) ∧ ∀ a' b', a' < b' → b' < (freeN M U L x U.length).length → (a' < a ∨ (a' = a ∧ b' < b)) → Cmp M U n (nx L x (freeN M U L x U.length) a' b') none) ∨ (r = none ∧ ∀ a' b', a' < b' → b' < (freeN M U L x U.length).length → Cmp M U n (nx L x (freeN M U L x U.length) a' b') none)) → Cmp M U (n + 1) L r from fun r h => ⟨x, hx, h⟩)
    obtain ⟨bA, offA, hA, hbA, hclA⟩ := HT.out.m.at_ (Below.refl _ _) hx
    have HAE := Lib.hid hA
    have HMC := Lib.hid (show ∀ w', Below w.heap.size w w' → (w'.cell? ⟨bA, offA + L.length * 4, none⟩ = some (.int .i64 x.m) ∧ w'.cell? ⟨bA, offA + L.length * 4 + 1, none⟩ = some (.int .i64 x.d) ∧ w'.cell? ⟨bA, offA + L.length * 4 + 2, none⟩ = some (.string x.h) ∧ w'.cell? ⟨bA, offA + L.length * 4 + 3, none⟩ = some (.string x.a)) ∧ bA < w'.heap.size from fun w' hb => by
      obtain ⟨e0, e1, e2, e3⟩ := dt_cells hclA
      exact ⟨⟨(hb.cell (p := ⟨bA, offA + L.length * 4, none⟩) hbA).trans e0, (hb.cell (p := ⟨bA, offA + L.length * 4 + 1, none⟩) hbA).trans e1, (hb.cell (p := ⟨bA, offA + L.length * 4 + 2, none⟩) hbA).trans e2, (hb.cell (p := ⟨bA, offA + L.length * 4 + 3, none⟩) hbA).trans e3⟩, Nat.lt_of_lt_of_le hbA hb.size⟩)
    obtain ⟨i, hi⟩ : ∃ i, L.length = i := ⟨_, rfl⟩
    have HI := Lib.hid hi
    rw [hi] at HMC hlen
    rw [hi, hA]
    have him : i < M.length := by omega
    have hne : ¬ (i : Int) = (M.length : Int) := by omega
    have i1 : (0 : Int) ≤ (i : Int) := by omega
    have i2 : (i : Int) < (M.length : Int) := by omega
    clear h hL hx hA hbA hclA hi ih
    go_enter Try.func38, Try.ntmps38
    go_wp2_with fail
    have HO0 := Lib.hid (own_nilS (w := w))
    have h2 := cur_new w (.cells #[] 9)
    generalize w.alloc (.cells #[] 9) = w2 at HO0 h2 ⊢
    have HB2 := Lib.hid h2
    clear h2
    rw [show ((i : Int) == (M.length : Int)) = false from by simpa using hne]
    go_loopw [9, 27] (fun v iv wr => ∃ (k : Nat) (A9 : Option Addr) (c9 : Nat), k ≤ U.length ∧ v = .slice A9 (freeN M U L x k).length c9 ∧ iv = .int .i64 k ∧ OwnL sE 1 9 w.heap.size wr (.slice A9 (freeN M U L x k).length c9) (freeN M U L x k) ∧ Below w.heap.size w wr) (fun _ j _ => U.length - (intOf j).toNat)
    case atStart => exact ⟨0, some ⟨w.heap.size, 0, none⟩, 0, by omega, rfl, rfl, HO0.out, HB2.out⟩
    case round =>
      clear HO0 HB2
      obtain ⟨k, A9, c9, hk, rfl, rfl, ho, hb⟩ := hrel
      rename World => wp
      have HO := Lib.hid ho
      have HB := Lib.hid hb
      clear ho hb
      by_cases hkl : k < U.length
      · obtain ⟨y, hy⟩ : ∃ y, U[k]? = some y := ⟨_, List.getElem?_eq_getElem hkl⟩
        have HYS := Lib.hid (HT.out.us y (List.mem_of_getElem? hy))
        have HYD := Lib.hid (HT.out.u.ds y (List.mem_of_getElem? hy))
        obtain ⟨b7, off7, hB7, hb7l, hcl7⟩ := HT.out.u.rd.at_ HB.out hy
        obtain ⟨e0, e1, e2⟩ := um_cells hcl7
        have hb7w : b7 < wp.heap.size := Nat.lt_of_lt_of_le hb7l HB.out.size
        have HNX := Lib.hid (freeN_next (M := M) (L := L) (x := x) hy)
        obtain ⟨v1, hv1⟩ : ∃ v, mayB x y = v := ⟨_, rfl⟩
        obtain ⟨v2, hv2⟩ : ∃ v, takB M L L.length x.d y.nm = v := ⟨_, rfl⟩
        have HFR := Lib.hid (show frB M L x y = (v1 && !v2) by unfold frB; rw [hv1, hv2])
        have HMY := Lib.hid (fun w' (hb : Below w.heap.size w w') => may_r x y v1 w' HYS.out.2.2 (HYD.out.to hb) hv1)
        have HBU := Lib.hid (fun w' (hb : Below w.heap.size w w') => busy_r A C c e i M L x y.nm v2 w' (HT.out.m.to hb) (HL.out.to hb) hml (by rw [HI.out]; omega) (by rw [← HI.out]; exact HX.out) hv2)
        rw [HAE.out, HI.out] at HBU
        obtain ⟨yn, yt, ys, yA, yc⟩ := y
        dsimp only at e0 e1 e2 HNX HBU
        obtain ⟨yl, hyl⟩ : ∃ q, ys.length = q := ⟨_, rfl⟩
        rw [hyl] at e2
        simp only [dtE, umE, hyl] at HMY
        obtain ⟨S, hS⟩ : ∃ S, freeN M U L x k = S := ⟨_, rfl⟩
        have hSl : S.length ≤ k := by rw [← hS]; exact freeN_len _ _ _ _ _
        rw [hS] at HO HNX ⊢
        rw [hB7]
        have HBE := Lib.hid hB7
        clear hcl7 hy hB7 hb7l hv1 hv2 hyl hS
        go_upto_region 8 with (fail)
        have h4 := cur_new wp (.cells #[.string yn, .string yt, .slice yA yl yc] 32)
        have k4 := Blk.new wp 32 [.string yn, .string yt, .slice yA yl yc]
        generalize wp.alloc (.cells #[.string yn, .string yt, .slice yA yl yc] 32) = w6 at h4 k4 ⊢
        obtain ⟨g4, hg4⟩ : ∃ g, wp.heap.size = g := ⟨_, rfl⟩
        rw [hg4] at k4 ⊢
        have HB6 := Lib.hid (cur_step1 HB.out h4)
        have HO6 := Lib.hid (own_below HO.out h4 (Nat.le_refl _))
        have HK6 := Lib.hid k4
        clear h4 k4 hg4 e0 e1 e2 hb7w
        obtain ⟨⟨q0, q1, q2, q3⟩, l5⟩ := HMC.out w6 HB6.out
        have q4 : w6.cell? ⟨g4, 0, none⟩ = some (.string yn) := HK6.out.cell 0
        have q5 : w6.cell? ⟨g4, 1, none⟩ = some (.string yt) := HK6.out.cell 1
        have q6 : w6.cell? ⟨g4, 2, none⟩ = some (.slice yA yl yc) := HK6.out.cell 2
        have l8 : g4 < w6.heap.size := HK6.out.lt
        obtain ⟨xm, xd, xh, xa⟩ := x
        dsimp only at q0 q1 q2 q3 HMY
        obtain ⟨CS, hCS⟩ : ∃ CS : List (Nat × Nat × Value), CS = [(bA, offA + i * 4, .int .i64 xm), (bA, offA + i * 4 + 1, .int .i64 xd), (bA, offA + i * 4 + 2, .string xh), (bA, offA + i * 4 + 3, .string xa), (g4, 0, .string yn), (g4, 1, .string yt), (g4, 2, .slice yA yl yc)] := ⟨_, rfl⟩
        have K3 := Lib.hid (show Keep w6 w6 CS by
          rw [hCS]
          refine ⟨Below.refl _ _, ?_⟩
          intro c hc
          simp only [List.mem_cons, List.mem_nil_iff, or_false] at hc
          rcases hc with rfl | rfl | rfl | rfl | rfl | rfl | rfl <;> exact ⟨by assumption, by assumption⟩)
        have k0 : ∀ s : Wd w6 CS, s.w.cell? ⟨bA, offA + i * 4, none⟩ = some (.int .i64 xm) := fun s => s.h.get (by simp [hCS])
        have k1 : ∀ s : Wd w6 CS, s.w.cell? ⟨bA, offA + i * 4 + 1, none⟩ = some (.int .i64 xd) := fun s => s.h.get (by simp [hCS])
        have k2 : ∀ s : Wd w6 CS, s.w.cell? ⟨bA, offA + i * 4 + 2, none⟩ = some (.string xh) := fun s => s.h.get (by simp [hCS])
        have k3 : ∀ s : Wd w6 CS, s.w.cell? ⟨bA, offA + i * 4 + 3, none⟩ = some (.string xa) := fun s => s.h.get (by simp [hCS])
        have k4 : ∀ s : Wd w6 CS, s.w.cell? ⟨g4, 0, none⟩ = some (.string yn) := fun s => s.h.get (by simp [hCS])
        have k5 : ∀ s : Wd w6 CS, s.w.cell? ⟨g4, 1, none⟩ = some (.string yt) := fun s => s.h.get (by simp [hCS])
        have k6 : ∀ s : Wd w6 CS, s.w.cell? ⟨g4, 2, none⟩ = some (.slice yA yl yc) := fun s => s.h.get (by simp [hCS])
        have hex : ∀ s : Wd w6 CS, ∃ s' : Wd w6 CS, s.w = s'.w := fun s => ⟨s, rfl⟩
        haveI hne' : Nonempty (Wd w6 CS) := ⟨⟨_, K3.out⟩⟩
        clear hCS q0 q1 q2 q3 q4 q5 q6
        cases v1
        · refine wp_region_wd w6 CS (by kernel_rfl) (by kernel_rfl) K3.out.drew ?_
          iterate 6 (go_big_quiet_step ((go_at_call 13; refine (HMY.out _ (cur_step1 HB6.out (Wd.h _).1)).mono ?_; rintro r w8 ⟨rfl, hb8⟩; exact ⟨rfl, ⟨w8, (Wd.h _).to hb8⟩, rfl⟩)))
          repeat (go_big_quiet_step ((go_at_call 62; refine (HBU.out _ (cur_step1 HB6.out (Wd.h _).1)).mono ?_; rintro r w8 ⟨rfl, hb8⟩; exact ⟨rfl, ⟨w8, (Wd.h _).to hb8⟩, rfl⟩)))
          refine wpQuiet_nil ?_
          rintro w8 ⟨s8, hs8⟩
          have HB68 := Lib.hid (show Below w6.heap.size w6 w8 by rw [hs8]; exact s8.h.1)
          clear hs8 s8 k0 k1 k2 k3 k4 k5 k6 hex hne' K3 CS
          have HO8 := Lib.hid (own_below HO6.out HB68.out (Nat.le_refl _))
          have HB8 := Lib.hid (cur_step1 HB6.out HB68.out)
          have HK8 := Lib.hid (HK6.out.to HB68.out)
          have HNY := Lib.hid (show freeN M U L ⟨xm, xd, xh, xa⟩ (k + 1) = S by rw [HNX.out, HFR.out]; simp)
          go_wp2_with fail
          first
          | (go_roundw
             case rel => exact ⟨k + 1, A9, c9, by omega, by rw [HNY.out], by simp, by rw [HNY.out]; exact HO8.out, HB8.out⟩
             case measure => simp [intOf]; omega)
          | exact ⟨⟨k + 1, A9, c9, by omega, by rw [HNY.out], by simp, by rw [HNY.out]; exact HO8.out, HB8.out⟩, by simp [intOf]; omega⟩
        · cases v2
          · refine wp_region_wd w6 CS (by kernel_rfl) (by kernel_rfl) K3.out.drew ?_
            iterate 6 (go_big_quiet_step ((go_at_call 13; refine (HMY.out _ (cur_step1 HB6.out (Wd.h _).1)).mono ?_; rintro r w8 ⟨rfl, hb8⟩; exact ⟨rfl, ⟨w8, (Wd.h _).to hb8⟩, rfl⟩)))
            repeat (go_big_quiet_step ((go_at_call 62; refine (HBU.out _ (cur_step1 HB6.out (Wd.h _).1)).mono ?_; rintro r w8 ⟨rfl, hb8⟩; exact ⟨rfl, ⟨w8, (Wd.h _).to hb8⟩, rfl⟩)))
            refine wpQuiet_nil ?_
            rintro w8 ⟨s8, hs8⟩
            have HB68 := Lib.hid (show Below w6.heap.size w6 w8 by rw [hs8]; exact s8.h.1)
            clear hs8 s8 k0 k1 k2 k3 k4 k5 k6 hex hne' K3 CS
            have HO8 := Lib.hid (own_below HO6.out HB68.out (Nat.le_refl _))
            have HB8 := Lib.hid (cur_step1 HB6.out HB68.out)
            have HK8 := Lib.hid (HK6.out.to HB68.out)
            have HNY := Lib.hid (show freeN M U L ⟨xm, xd, xh, xa⟩ (k + 1) = S ++ [yn] by rw [HNX.out, HFR.out]; simp)
            have y0 : w8.cell? ⟨g4, 0, none⟩ = some (.string yn) := HK8.out.cell 0
            have ly : g4 < w8.heap.size := HK8.out.lt
            obtain ⟨w9, hw9⟩ : ∃ W, w8.alloc (.cells (sE yn).toArray 9) = W := ⟨_, rfl⟩
            have HB9 := Lib.hid (show Below w8.heap.size w8 w9 by rw [← hw9]; exact cur_new _ _)
            have HE9 := Lib.hid (show w9.heap[w8.heap.size]? = some (.cells (sE yn).toArray 9 (0, 0)) by rw [← hw9]; exact heap_alloc_new _ _)
            have HBW := Lib.hid (show w.heap.size ≤ w9.heap.size from Nat.le_trans HB8.out.size HB9.out.size)
            have S9 := Lib.hid hw9
            clear hw9
            go_upto_region 10 with (at_builtin; change wpList _ _ _ _ _ (w8.alloc (.cells (sE yn).toArray 9)); rw [S9.out]; refine wpList_app1 Try.sElem w9 rfl (.tmp 46) (.tmp 49) rfl w.heap.size A9 c9 S (by rfl) (own_below HO8.out HB9.out (Nat.le_refl _)) yn w8.heap.size 1 (by rfl) HE9.out (by unfold maxLen; omega) (by omega) HBW.out ?_; intro gz capz wz ha; have HAZ := Lib.hid ha; clear ha)
            have HFA := Lib.hid (show Far (adB A9) w9 wz from Far.grown HAZ.out.grown (fun b hb => adB_own hb))
            have HBZ := Lib.hid (show Below w.heap.size w wz from (cur_step1 HB8.out HB9.out).trans (HFA.out.below HBW.out (fun y hy => (own_in HO8.out y hy).1)))
            have HOZ := Lib.hid (show OwnL sE 1 9 w.heap.size wz (.slice (some ⟨gz, 0, none⟩) (S.length + 1) capz) (S ++ [yn]) from HAZ.out.one rfl)
            clear HAZ HFA HE9 S9 y0 ly
            go_wp2_with fail
            first
            | (go_roundw
               case rel => exact ⟨k + 1, some ⟨gz, 0, none⟩, capz, by omega, by rw [HNY.out, List.length_append]; rfl, by simp, by rw [HNY.out, List.length_append]; exact HOZ.out, HBZ.out⟩
               case measure => simp [intOf]; omega)
            | (go_roundw
               case rel => exact ⟨_, _, _, ⟨k + 1, by omega, some ⟨gz, 0, none⟩, capz, by rw [HNY.out, List.length_append]; rfl, by simp, by rw [HNY.out, List.length_append]; exact HOZ.out, HBZ.out⟩, rfl, rfl, rfl⟩
               case measure => simp [intOf]; omega)
            | exact ⟨⟨k + 1, some ⟨gz, 0, none⟩, capz, by omega, by rw [HNY.out, List.length_append]; rfl, by simp, by rw [HNY.out, List.length_append]; exact HOZ.out, HBZ.out⟩, by simp [intOf]; omega⟩
          · refine wp_region_wd w6 CS (by kernel_rfl) (by kernel_rfl) K3.out.drew ?_
            iterate 6 (go_big_quiet_step ((go_at_call 13; refine (HMY.out _ (cur_step1 HB6.out (Wd.h _).1)).mono ?_; rintro r w8 ⟨rfl, hb8⟩; exact ⟨rfl, ⟨w8, (Wd.h _).to hb8⟩, rfl⟩)))
            repeat (go_big_quiet_step ((go_at_call 62; refine (HBU.out _ (cur_step1 HB6.out (Wd.h _).1)).mono ?_; rintro r w8 ⟨rfl, hb8⟩; exact ⟨rfl, ⟨w8, (Wd.h _).to hb8⟩, rfl⟩)))
            refine wpQuiet_nil ?_
            rintro w8 ⟨s8, hs8⟩
            have HB68 := Lib.hid (show Below w6.heap.size w6 w8 by rw [hs8]; exact s8.h.1)
            clear hs8 s8 k0 k1 k2 k3 k4 k5 k6 hex hne' K3 CS
            have HO8 := Lib.hid (own_below HO6.out HB68.out (Nat.le_refl _))
            have HB8 := Lib.hid (cur_step1 HB6.out HB68.out)
            have HK8 := Lib.hid (HK6.out.to HB68.out)
            have HNY := Lib.hid (show freeN M U L ⟨xm, xd, xh, xa⟩ (k + 1) = S by rw [HNX.out, HFR.out]; simp)
            go_wp2_with fail
            first
            | (go_roundw
               case rel => exact ⟨k + 1, A9, c9, by omega, by rw [HNY.out], by simp, by rw [HNY.out]; exact HO8.out, HB8.out⟩
               case measure => simp [intOf]; omega)
            | exact ⟨⟨k + 1, A9, c9, by omega, by rw [HNY.out], by simp, by rw [HNY.out]; exact HO8.out, HB8.out⟩, by simp [intOf]; omega⟩
      · have hkU : k = U.length := by omega
        obtain ⟨F, hF⟩ : ∃ F, freeN M U L x k = F := ⟨_, rfl⟩
        have hFl : F.length ≤ 1000 := by rw [← hF]; exact Nat.le_trans (freeN_len _ _ _ _ _) (by omega)
        rw [← hkU, hF] at HCM
        rw [hF] at HO ⊢
        have HRF := Lib.hid (own_rd sE_len HO.out)
        clear HO hF hkU
        go_wp2_with fail
        clear hkl hk
        go_loopw [54] (fun iv wr => ∃ a : Nat, a ≤ F.length ∧ iv = .int .i64 a ∧ (∀ a' b', a' < b' → b' < F.length → a' < a → Cmp M U n (nx L x F a' b') none) ∧ Below wp.heap.size wp wr) (fun j _ => F.length - (intOf j).toNat)
        case atStart => exact ⟨0, by omega, rfl, fun _ _ _ _ h => by omega, Below.refl _ _⟩
        case round =>
          obtain ⟨a, ha, rfl, hno, hb⟩ := hrel
          rename World => wq
          have HNA := Lib.hid hno
          have HBQ := Lib.hid hb
          clear hno hb
          by_cases hal : a < F.length
          · go_wp2_with fail
            go_loopw [13] (fun iv wr => ∃ b : Nat, a < b ∧ b ≤ F.length ∧ iv = .int .i64 b ∧ (∀ b', a < b' → b' < b → Cmp M U n (nx L x F a b') none) ∧ Below wp.heap.size wp wr) (fun j _ => F.length - (intOf j).toNat)
            case atStart => exact ⟨a + 1, by omega, by omega, by simp, fun b' h1 h2 => by omega, HBQ.out⟩
            case round =>
              clear HBQ
              obtain ⟨b, hab, hb1, rfl, hno, hb⟩ := hrel
              rename World => wr
              have HNB := Lib.hid hno
              have HBR := Lib.hid hb
              clear hno hb
              by_cases hbl : b < F.length
              · obtain ⟨na, hna⟩ : ∃ s, F[a]? = some s := ⟨_, List.getElem?_eq_getElem hal⟩
                obtain ⟨nb, hnb⟩ : ∃ s, F[b]? = some s := ⟨_, List.getElem?_eq_getElem hbl⟩
                obtain ⟨bF, offF, hA9, hbF, hcF⟩ := HRF.out.at_ (Below.refl _ _) hna
                obtain ⟨bF', offF', hA9', _, hcF'⟩ := HRF.out.at_ (Below.refl _ _) hnb
                rw [hA9] at hA9'
                injection hA9' with hA9'
                injection hA9' with e1 e2 _
                subst e1 e2
                have HNX := Lib.hid (show nx L x F a b = L ++ [⟨x.m, na, nb⟩] by unfold nx nmF; rw [hna, hnb]; rfl)
                have HSB := Lib.hid (show ∀ w', Below wp.heap.size wp w' → w'.cell? ⟨bA, offA + i * 4, none⟩ = some (.int .i64 x.m) ∧ w'.cell? ⟨bF, offF + a, none⟩ = some (.string na) ∧ w'.cell? ⟨bF, offF + b, none⟩ = some (.string nb) from fun w' hb => by
                  have p1 := (hb.cell (p := ⟨bF, offF + a, none⟩) hbF).trans (by have := hcF 0 _ rfl; simpa using this)
                  have p2 := (hb.cell (p := ⟨bF, offF + b, none⟩) hbF).trans (by have := hcF' 0 _ rfl; simpa using this)
                  exact ⟨(HMC.out w' (cur_step1 HB.out hb)).1.1, p1, p2⟩)
                have HA9 := Lib.hid hA9
                rw [hA9]
                have j1 : (0 : Int) ≤ (a : Int) := by omega
                have j2 : (a : Int) < (F.length : Int) := by omega
                have j3 : (0 : Int) ≤ (b : Int) := by omega
                have j4 : (b : Int) < (F.length : Int) := by omega
                have hlen2 : L.length ≤ 10 := by rw [HI.out]; omega
                clear hna hnb hA9 hcF hcF' hbF
                go_upto_region 17 with (fail)
                go_cut [14] from 65 to 84 (fun v14 wx => ∃ (g cap : Nat), v14 = .slice (some ⟨g, 0, none⟩) (L.length + 1) cap ∧ Rd apE 3 wx wx.heap.size (some ⟨g, 0, none⟩) (L ++ [⟨x.m, na, nb⟩]) ∧ Below wp.heap.size wp wx)
                case first =>
                  refine wp_region_held_drew (S := fun w' => w'.cell? ⟨bA, offA + i * 4, none⟩ = some (.int .i64 x.m) ∧ w'.cell? ⟨bF, offF + a, none⟩ = some (.string na) ∧ w'.cell? ⟨bF, offF + b, none⟩ = some (.string nb)) (by kernel_rfl) (HSB.out _ HBR.out.drew) (fun hS => ?_)
                  obtain ⟨wd, hwd⟩ : ∃ W, wr.drew = W := ⟨_, rfl⟩
                  have HBD := Lib.hid (show Below wp.heap.size wp wd by rw [← hwd]; exact HBR.out.drew)
                  rw [hwd] at hS ⊢
                  clear hwd
                  refine wpAnyH_take (i := 1) (v := ?_) rfl (by kernel_rfl) (by kernel_rfl) (by kernel_rfl) (fun _ _ _ h => h) (Or.inl ⟨by rfl, ?_⟩) hS ?_
                  rotate_left
                  · intro w' _
                    go_simp
                    try with_reducible rfl
                  try simp only [Act.put, List.setIfInBounds_toArray, List.set_cons_zero, List.set_cons_succ]
                  refine wpAnyH_take (i := 3) (v := ?_) rfl (by kernel_rfl) (by kernel_rfl) (by kernel_rfl) (fun _ _ _ h => h) (Or.inl ⟨by rfl, ?_⟩) hS ?_
                  rotate_left
                  · intro w' _
                    go_simp
                    try with_reducible rfl
                  try simp only [Act.put, List.setIfInBounds_toArray, List.set_cons_zero, List.set_cons_succ]
                  refine wpAnyH_take (i := 4) (v := ?_) rfl (by kernel_rfl) (by kernel_rfl) (by kernel_rfl) (fun _ _ _ h => h) (Or.inl ⟨by rfl, ?_⟩) hS ?_
                  rotate_left
                  · intro w' _
                    go_simp
                    try with_reducible rfl
                  try simp only [Act.put, List.setIfInBounds_toArray, List.set_cons_zero, List.set_cons_succ]
                  refine wpAnyH_take (i := 5) (v := ?_) rfl (by kernel_rfl) (by kernel_rfl) (by kernel_rfl) (fun _ _ _ h => h) (Or.inl ⟨by rfl, ?_⟩) hS ?_
                  rotate_left
                  · intro w' _
                    go_simp
                    try with_reducible rfl
                  try simp only [Act.put, List.setIfInBounds_toArray, List.set_cons_zero, List.set_cons_succ]
                  refine wpAnyH_take (i := 6) (v := ?_) rfl (by kernel_rfl) (by kernel_rfl) (by kernel_rfl) (fun _ _ _ h => h) (Or.inl ⟨by rfl, ?_⟩) hS ?_
                  rotate_left
                  · intro w' _
                    go_simp
                    try with_reducible rfl
                  try simp only [Act.put, List.setIfInBounds_toArray, List.set_cons_zero, List.set_cons_succ]
                  refine wpAnyH_take (i := 7) (v := .int .i64 x.m) rfl (by kernel_rfl) (by kernel_rfl) (by kernel_rfl) (fun _ _ _ h => h) (Or.inl ⟨by rfl, ?_⟩) hS ?_
                  · intro w' hw'
                    have y0 := hw'.1
                    go_simp
                  try simp only [Act.put, List.setIfInBounds_toArray, List.set_cons_zero, List.set_cons_succ]
                  refine wpAnyH_take (i := 8) (v := ?_) rfl (by kernel_rfl) (by kernel_rfl) (by kernel_rfl) (fun _ _ _ h => h) (Or.inl ⟨by rfl, ?_⟩) hS ?_
                  rotate_left
                  · intro w' _
                    go_simp
                    try with_reducible rfl
                  try simp only [Act.put, List.setIfInBounds_toArray, List.set_cons_zero, List.set_cons_succ]
                  refine wpAnyH_take (i := 9) (v := ?_) rfl (by kernel_rfl) (by kernel_rfl) (by kernel_rfl) (fun _ _ _ h => h) (Or.inl ⟨by rfl, ?_⟩) hS ?_
                  rotate_left
                  · intro w' _
                    go_simp
                    try with_reducible rfl
                  try simp only [Act.put, List.setIfInBounds_toArray, List.set_cons_zero, List.set_cons_succ]
                  refine wpAnyH_take (i := 10) (v := ?_) rfl (by kernel_rfl) (by kernel_rfl) (by kernel_rfl) (fun _ _ _ h => h) (Or.inl ⟨by rfl, ?_⟩) hS ?_
                  rotate_left
                  · intro w' _
                    go_simp
                    try with_reducible rfl
                  try simp only [Act.put, List.setIfInBounds_toArray, List.set_cons_zero, List.set_cons_succ]
                  refine wpAnyH_take (i := 11) (v := .string na) rfl (by kernel_rfl) (by kernel_rfl) (by kernel_rfl) (fun _ _ _ h => h) (Or.inl ⟨by rfl, ?_⟩) hS ?_
                  · intro w' hw'
                    have y0 := hw'.2.1
                    go_simp
                  try simp only [Act.put, List.setIfInBounds_toArray, List.set_cons_zero, List.set_cons_succ]
                  refine wpAnyH_take (i := 12) (v := ?_) rfl (by kernel_rfl) (by kernel_rfl) (by kernel_rfl) (fun _ _ _ h => h) (Or.inl ⟨by rfl, ?_⟩) hS ?_
                  rotate_left
                  · intro w' _
                    go_simp
                    try with_reducible rfl
                  try simp only [Act.put, List.setIfInBounds_toArray, List.set_cons_zero, List.set_cons_succ]
                  refine wpAnyH_take (i := 13) (v := ?_) rfl (by kernel_rfl) (by kernel_rfl) (by kernel_rfl) (fun _ _ _ h => h) (Or.inl ⟨by rfl, ?_⟩) hS ?_
                  rotate_left
                  · intro w' _
                    go_simp
                    try with_reducible rfl
                  try simp only [Act.put, List.setIfInBounds_toArray, List.set_cons_zero, List.set_cons_succ]
                  refine wpAnyH_take (i := 14) (v := ?_) rfl (by kernel_rfl) (by kernel_rfl) (by kernel_rfl) (fun _ _ _ h => h) (Or.inl ⟨by rfl, ?_⟩) hS ?_
                  rotate_left
                  · intro w' _
                    go_simp
                    try with_reducible rfl
                  try simp only [Act.put, List.setIfInBounds_toArray, List.set_cons_zero, List.set_cons_succ]
                  refine wpAnyH_take (i := 15) (v := .string nb) rfl (by kernel_rfl) (by kernel_rfl) (by kernel_rfl) (fun _ _ _ h => h) (Or.inl ⟨by rfl, ?_⟩) hS ?_
                  · intro w' hw'
                    have y0 := hw'.2.2
                    go_simp
                  try simp only [Act.put, List.setIfInBounds_toArray, List.set_cons_zero, List.set_cons_succ]
                  refine wpAnyH_take (i := 16) (v := ?_) rfl (by kernel_rfl) (by kernel_rfl) (by kernel_rfl) (fun _ _ _ h => h) (Or.inl ⟨by rfl, ?_⟩) hS ?_
                  rotate_left
                  · intro w' _
                    go_simp
                    try with_reducible rfl
                  try simp only [Act.put, List.setIfInBounds_toArray, List.set_cons_zero, List.set_cons_succ]
                  refine wpAnyH_ready (rs := [0, 17]) (by kernel_rfl) (by simp) ?_
                  refine AllReadyH.cons rfl (fun K' hK => ?_) (AllReadyH.cons rfl (fun K' hK => ?_) (AllReadyH.nil))
                  · go_simp
                    have h1 := cur_new wd (.cells #[] 43)
                    have o1 := own_mono (own_nilA (w := wd)) HBD.out.size
                    generalize wd.alloc (.cells #[] 43) = u1 at h1 o1 ⊢
                    obtain ⟨g0, hg0⟩ : ∃ g, wd.heap.size = g := ⟨_, rfl⟩
                    have HG0 := Lib.hid (show wp.heap.size ≤ g0 by rw [← hg0]; exact HBD.out.size)
                    rw [hg0] at o1 ⊢
                    have HU1 := Lib.hid (cur_step1 HBD.out h1)
                    have HO1 := Lib.hid o1
                    have HC1 := Lib.hid h1
                    have HGe := Lib.hid hg0
                    refine hK.out _ _ (HSB.out _ HU1.out) (fun hS => ?_)
                    clear hK K' h1 o1 hg0
                    refine wpAnyH_ready (rs := [2, 17]) (by kernel_rfl) (by simp) ?_
                    refine AllReadyH.cons rfl (fun K' hK => ?_) (AllReadyH.cons rfl (fun K' hK => ?_) (AllReadyH.nil))
                    · refine step_appL Try.apElem u1 rfl (.tmp 65) (.tmp 66) rfl wp.heap.size g0 0 [] (by rfl) HO1.out C e L (by show Value.slice C i e = .slice C L.length e; rw [HI.out]) (HL.out.to (cur_step1 HB.out HU1.out)) (by unfold maxLen; simp; omega) (by simp; omega) HU1.out.size ?_
                      intro g2 cap2 u3 ho hg _
                      have HF2 := Lib.hid (show Far [g0] u1 u3 from Far.grown hg (fun b hb => by injection hb with hb; simp [hb]))
                      have HU3 := Lib.hid (show Below wp.heap.size wp u3 from HU1.out.trans (HF2.out.below HU1.out.size (fun y hy => by simp at hy; rw [hy]; exact HG0.out)))
                      have HO2 := Lib.hid (show OwnL apE 3 43 wp.heap.size u3 (.slice (some ⟨g2, 0, none⟩) L.length cap2) L from ho)
                      refine hK.out _ _ (HSB.out _ HU3.out) (fun hS => ?_)
                      clear hK K' ho hg
                      refine wpAnyH_ready (rs := [17]) (by kernel_rfl) (by simp) ?_
                      refine AllReadyH.cons rfl (fun K' hK => ?_) (AllReadyH.nil)
                      go_simp
                      have h3 := cur_new u3 (.cells #[.int .i64 x.m, .string na, .string nb] 43)
                      have k3 := Blk.new u3 43 [.int .i64 x.m, .string na, .string nb]
                      generalize u3.alloc (.cells #[.int .i64 x.m, .string na, .string nb] 43) = u5 at h3 k3 ⊢
                      obtain ⟨g3, hg3⟩ : ∃ g, u3.heap.size = g := ⟨_, rfl⟩
                      have HG3 := Lib.hid (show u3.heap.size = g3 from hg3)
                      rw [hg3] at k3 ⊢
                      have HU5 := Lib.hid (cur_step1 HU3.out h3)
                      have HC3 := Lib.hid h3
                      have HK3 := Lib.hid k3
                      refine hK.out _ _ (HSB.out _ HU5.out) (fun hS => ?_)
                      clear hK K' h3 k3 hg3
                      refine wpAnyH_ready (rs := [18]) (by kernel_rfl) (by simp) ?_
                      refine AllReadyH.cons rfl (fun K' hK => ?_) (AllReadyH.nil)
                      refine step_app1 Try.apElem u5 rfl (.tmp 67) (.tmp 82) rfl wp.heap.size (some ⟨g2, 0, none⟩) cap2 L (by rfl) (own_below HO2.out HC3.out (Nat.le_refl _)) ⟨x.m, na, nb⟩ g3 1 (by rfl) (HK3.out) (by unfold maxLen; omega) (by omega) HU5.out.size ?_
                      intro g9 cap9 w9 hap
                      have HF9 := Lib.hid (show Far (adB (some ⟨g2, 0, none⟩)) u5 w9 from Far.grown hap.grown (fun b hb => adB_own hb))
                      have HB9 := Lib.hid (show Below wp.heap.size wp w9 from HU5.out.trans (HF9.out.below HU5.out.size (fun y hy => (own_in HO2.out y hy).1)))
                      have HO9 := Lib.hid (show OwnL apE 3 43 wp.heap.size w9 (.slice (some ⟨g9, 0, none⟩) (L.length + 1) cap9) (L ++ [⟨x.m, na, nb⟩]) from hap.one rfl)
                      refine hK.out _ _ (HSB.out _ HB9.out) (fun hS => ?_)
                      clear hK K' hap
                      refine wpAnyH_ready (rs := [19]) (by kernel_rfl) (by simp) ?_
                      refine AllReadyH.cons rfl (fun K' hK => ?_) AllReadyH.nil
                      go_simp
                      refine hK.out _ _ (HSB.out _ HB9.out) (fun hS => ?_)
                      clear hK K'
                      refine wpAnyH_done (by kernel_rfl) ?_ _
                      go_wp2_with (fail)
                      go_meet
                      case rel => exact ⟨g9, cap9, rfl, own_rd apE_len HO9.out, HB9.out⟩
                    · go_simp
                      have h3 := cur_new u1 (.cells #[.int .i64 x.m, .string na, .string nb] 43)
                      have k3 := Blk.new u1 43 [.int .i64 x.m, .string na, .string nb]
                      generalize u1.alloc (.cells #[.int .i64 x.m, .string na, .string nb] 43) = u4 at h3 k3 ⊢
                      obtain ⟨g3, hg3⟩ : ∃ g, u1.heap.size = g := ⟨_, rfl⟩
                      have HG3 := Lib.hid (show u1.heap.size = g3 from hg3)
                      rw [hg3] at k3 ⊢
                      have HU4 := Lib.hid (cur_step1 HU1.out h3)
                      have HC3 := Lib.hid h3
                      have HK3 := Lib.hid k3
                      refine hK.out _ _ (HSB.out _ HU4.out) (fun hS => ?_)
                      clear hK K' h3 k3 hg3
                      refine wpAnyH_ready (rs := [2]) (by kernel_rfl) (by simp) ?_
                      refine AllReadyH.cons rfl (fun K' hK => ?_) (AllReadyH.nil)
                      refine step_appL Try.apElem u4 rfl (.tmp 65) (.tmp 66) rfl wp.heap.size g0 0 [] (by rfl) (own_below HO1.out HC3.out (Nat.le_refl _)) C e L (by show Value.slice C i e = .slice C L.length e; rw [HI.out]) (HL.out.to (cur_step1 HB.out HU4.out)) (by unfold maxLen; simp; omega) (by simp; omega) HU4.out.size ?_
                      intro g2 cap2 u6 ho hg _
                      have HF2 := Lib.hid (show Far [g0] u4 u6 from Far.grown hg (fun b hb => by injection hb with hb; simp [hb]))
                      have HU6 := Lib.hid (show Below wp.heap.size wp u6 from HU4.out.trans (HF2.out.below HU4.out.size (fun y hy => by simp at hy; rw [hy]; exact HG0.out)))
                      have HO2 := Lib.hid (show OwnL apE 3 43 wp.heap.size u6 (.slice (some ⟨g2, 0, none⟩) L.length cap2) L from ho)
                      refine hK.out _ _ (HSB.out _ HU6.out) (fun hS => ?_)
                      clear hK K' ho hg
                      refine wpAnyH_ready (rs := [18]) (by kernel_rfl) (by simp) ?_
                      refine AllReadyH.cons rfl (fun K' hK => ?_) (AllReadyH.nil)
                      refine step_app1 Try.apElem u6 rfl (.tmp 67) (.tmp 82) rfl wp.heap.size (some ⟨g2, 0, none⟩) cap2 L (by rfl) HO2.out ⟨x.m, na, nb⟩ g3 1 (by rfl) ((HK3.out.far HF2.out (by simp; have q1 := (own_in HO1.out g0 (by simp [adB])).2; have q2 := HG3.out; omega))) (by unfold maxLen; omega) (by omega) HU6.out.size ?_
                      intro g9 cap9 w9 hap
                      have HF9 := Lib.hid (show Far (adB (some ⟨g2, 0, none⟩)) u6 w9 from Far.grown hap.grown (fun b hb => adB_own hb))
                      have HB9 := Lib.hid (show Below wp.heap.size wp w9 from HU6.out.trans (HF9.out.below HU6.out.size (fun y hy => (own_in HO2.out y hy).1)))
                      have HO9 := Lib.hid (show OwnL apE 3 43 wp.heap.size w9 (.slice (some ⟨g9, 0, none⟩) (L.length + 1) cap9) (L ++ [⟨x.m, na, nb⟩]) from hap.one rfl)
                      refine hK.out _ _ (HSB.out _ HB9.out) (fun hS => ?_)
                      clear hK K' hap
                      refine wpAnyH_ready (rs := [19]) (by kernel_rfl) (by simp) ?_
                      refine AllReadyH.cons rfl (fun K' hK => ?_) AllReadyH.nil
                      go_simp
                      refine hK.out _ _ (HSB.out _ HB9.out) (fun hS => ?_)
                      clear hK K'
                      refine wpAnyH_done (by kernel_rfl) ?_ _
                      go_wp2_with (fail)
                      go_meet
                      case rel => exact ⟨g9, cap9, rfl, own_rd apE_len HO9.out, HB9.out⟩
                  · go_simp
                    have h3 := cur_new wd (.cells #[.int .i64 x.m, .string na, .string nb] 43)
                    have k3 := Blk.new wd 43 [.int .i64 x.m, .string na, .string nb]
                    generalize wd.alloc (.cells #[.int .i64 x.m, .string na, .string nb] 43) = u2 at h3 k3 ⊢
                    obtain ⟨g3, hg3⟩ : ∃ g, wd.heap.size = g := ⟨_, rfl⟩
                    have HG3 := Lib.hid (show wd.heap.size = g3 from hg3)
                    rw [hg3] at k3 ⊢
                    have HU2 := Lib.hid (cur_step1 HBD.out h3)
                    have HC3 := Lib.hid h3
                    have HK3 := Lib.hid k3
                    refine hK.out _ _ (HSB.out _ HU2.out) (fun hS => ?_)
                    clear hK K' h3 k3 hg3
                    refine wpAnyH_ready (rs := [0]) (by kernel_rfl) (by simp) ?_
                    refine AllReadyH.cons rfl (fun K' hK => ?_) (AllReadyH.nil)
                    go_simp
                    have h1 := cur_new u2 (.cells #[] 43)
                    have o1 := own_mono (own_nilA (w := u2)) HU2.out.size
                    generalize u2.alloc (.cells #[] 43) = u7 at h1 o1 ⊢
                    obtain ⟨g0, hg0⟩ : ∃ g, u2.heap.size = g := ⟨_, rfl⟩
                    have HG0 := Lib.hid (show wp.heap.size ≤ g0 by rw [← hg0]; exact HU2.out.size)
                    rw [hg0] at o1 ⊢
                    have HU7 := Lib.hid (cur_step1 HU2.out h1)
                    have HO1 := Lib.hid o1
                    have HC1 := Lib.hid h1
                    have HGe := Lib.hid hg0
                    refine hK.out _ _ (HSB.out _ HU7.out) (fun hS => ?_)
                    clear hK K' h1 o1 hg0
                    refine wpAnyH_ready (rs := [2]) (by kernel_rfl) (by simp) ?_
                    refine AllReadyH.cons rfl (fun K' hK => ?_) (AllReadyH.nil)
                    refine step_appL Try.apElem u7 rfl (.tmp 65) (.tmp 66) rfl wp.heap.size g0 0 [] (by rfl) HO1.out C e L (by show Value.slice C i e = .slice C L.length e; rw [HI.out]) (HL.out.to (cur_step1 HB.out HU7.out)) (by unfold maxLen; simp; omega) (by simp; omega) HU7.out.size ?_
                    intro g2 cap2 u8 ho hg _
                    have HF2 := Lib.hid (show Far [g0] u7 u8 from Far.grown hg (fun b hb => by injection hb with hb; simp [hb]))
                    have HU8 := Lib.hid (show Below wp.heap.size wp u8 from HU7.out.trans (HF2.out.below HU7.out.size (fun y hy => by simp at hy; rw [hy]; exact HG0.out)))
                    have HO2 := Lib.hid (show OwnL apE 3 43 wp.heap.size u8 (.slice (some ⟨g2, 0, none⟩) L.length cap2) L from ho)
                    refine hK.out _ _ (HSB.out _ HU8.out) (fun hS => ?_)
                    clear hK K' ho hg
                    refine wpAnyH_ready (rs := [18]) (by kernel_rfl) (by simp) ?_
                    refine AllReadyH.cons rfl (fun K' hK => ?_) (AllReadyH.nil)
                    refine step_app1 Try.apElem u8 rfl (.tmp 67) (.tmp 82) rfl wp.heap.size (some ⟨g2, 0, none⟩) cap2 L (by rfl) HO2.out ⟨x.m, na, nb⟩ g3 1 (by rfl) (((HK3.out.to HC1.out).far HF2.out (by simp; have q1 := HK3.out.lt; have q2 := HGe.out; omega))) (by unfold maxLen; omega) (by omega) HU8.out.size ?_
                    intro g9 cap9 w9 hap
                    have HF9 := Lib.hid (show Far (adB (some ⟨g2, 0, none⟩)) u8 w9 from Far.grown hap.grown (fun b hb => adB_own hb))
                    have HB9 := Lib.hid (show Below wp.heap.size wp w9 from HU8.out.trans (HF9.out.below HU8.out.size (fun y hy => (own_in HO2.out y hy).1)))
                    have HO9 := Lib.hid (show OwnL apE 3 43 wp.heap.size w9 (.slice (some ⟨g9, 0, none⟩) (L.length + 1) cap9) (L ++ [⟨x.m, na, nb⟩]) from hap.one rfl)
                    refine hK.out _ _ (HSB.out _ HB9.out) (fun hS => ?_)
                    clear hK K' hap
                    refine wpAnyH_ready (rs := [19]) (by kernel_rfl) (by simp) ?_
                    refine AllReadyH.cons rfl (fun K' hK => ?_) AllReadyH.nil
                    go_simp
                    refine hK.out _ _ (HSB.out _ HB9.out) (fun hS => ?_)
                    clear hK K'
                    refine wpAnyH_done (by kernel_rfl) ?_ _
                    go_wp2_with (fail)
                    go_meet
                    case rel => exact ⟨g9, cap9, rfl, own_rd apE_len HO9.out, HB9.out⟩
                case rest =>
                  obtain ⟨g5, cap5, rfl, hr5, hb5⟩ := hcut
                  rename World => wx
                  have HBX := Lib.hid hb5
                  have HCL := Lib.hid (HIH.out (some ⟨g5, 0, none⟩) cap5 (L ++ [⟨x.m, na, nb⟩]) wx (HT.out.to (cur_step1 HB.out hb5)) hr5 (by rw [List.length_append, HI.out]; simp; omega))
                  rw [HAE.out, show (L ++ [(⟨x.m, na, nb⟩ : Apd)]).length = L.length + 1 by simp] at HCL
                  clear hr5 hb5 HBR
                  go_upto_region 19 with (go_at_call 38; refine HCL.out.mono ?_; rintro r9 w9 ⟨⟨A8, c8, o, rfl, hr8, hcm⟩, hb9⟩)
                  have HB9 := Lib.hid (cur_step1 HBX.out hb9)
                  have HR8 := Lib.hid hr8
                  rw [← HNX.out] at hcm
                  cases o with
                  | none =>
                    have HNB' := Lib.hid (show ∀ b', a < b' → b' < b + 1 → Cmp M U n (nx L x F a b') none from fun b' h1 h2 => by
                      by_cases e : b' = b
                      · rw [e]; exact hcm
                      · exact HNB.out b' h1 (by omega))
                    have hsm : (none : Option (List Apd)).isSome = false := rfl
                    clear hcm hb9 hr8 HCL HIH HNA HNB
                    go_wp2_with fail
                    first
                    | (go_roundw
                       case rel => exact ⟨b + 1, by omega, by omega, by simp, HNB'.out, HB9.out⟩
                       case measure => simp [intOf]; omega)
                    | exact ⟨⟨b + 1, by omega, by omega, by simp, HNB'.out, HB9.out⟩, by simp [intOf]; omega⟩
                  | some K =>
                    have HRES := Lib.hid (HCM.out (some K) (Or.inl ⟨a, b, K, hab, hbl, rfl, hcm, fun a' b' h1 h2 h3 => by
                      rcases h3 with h3 | ⟨h3, h4⟩
                      · exact HNA.out a' b' h1 h2 h3
                      · rw [h3] at h1 ⊢; exact HNB.out b' h1 h4⟩))
                    have hsm : (some K : Option (List Apd)).isSome = true := rfl
                    have HBF := Lib.hid (cur_step1 HB.out HB9.out)
                    clear hcm hb9 hr8 HCL HIH HNA HNB HCM
                    go_wp2_with fail
                    go_ret2
                    exact ⟨⟨A8, c8, some K, by simp, HR8.out, HRES.out⟩, HBF.out⟩
              · have HNA' := Lib.hid (show ∀ a' b', a' < b' → b' < F.length → a' < a + 1 → Cmp M U n (nx L x F a' b') none from fun a' b' h1 h2 h3 => by
                  by_cases e : a' = a
                  · rw [e] at h1 ⊢; exact HNB.out b' h1 (by omega)
                  · exact HNA.out a' b' h1 h2 (by omega))
                clear HNA HNB
                go_wp2_with fail
                first
                | (go_roundw
                   case rel => exact ⟨a + 1, by omega, by simp, HNA'.out, HBR.out⟩
                   case measure => simp [intOf]; omega)
                | exact ⟨⟨a + 1, by omega, by simp, HNA'.out, HBR.out⟩, by simp [intOf]; omega⟩
          · have HRES := Lib.hid (HCM.out none (Or.inr ⟨rfl, fun a' b' h1 h2 => HNA.out a' b' h1 h2 (by omega)⟩))
            have HBF := Lib.hid (cur_step1 HB.out HBQ.out)
            go_wp2_with fail
            go_ret2
            exact ⟨⟨none, 0, none, by simp, Rd.nil_, HRES.out⟩, HBF.out⟩

theorem onK_dat (M : List Dty) (d : Int) : ∀ k, k ≤ M.length → (onK M d k).map (datI M) = dOn (M.take k) d := by
  intro k
  induction k with
  | zero => intro _; rfl
  | succ k ih =>
    intro hk
    obtain ⟨x, hx⟩ : ∃ x, M[k]? = some x := ⟨_, List.getElem?_eq_getElem (by omega)⟩
    rw [List.take_add_one, hx, Option.toList, dOn_snoc, ← ih (by omega)]
    by_cases h : x.d = d
    · rw [onK_yes hx h, List.map_append, if_pos h]
      simp [datI, hx]
    · rw [onK_no hx h, if_neg h, List.append_nil]
theorem onI_dat (M : List Dty) (d : Int) : (onI M d).map (datI M) = dOn M d := by
  unfold onI
  rw [onK_dat M d M.length (Nat.le_refl _), List.take_length]
theorem onI_len (M : List Dty) (d : Int) : (onI M d).length = (dOn M d).length := by rw [← onI_dat M d, List.length_map]
theorem onI_lt (M : List Dty) (d : Int) : ∀ i ∈ onI M d, i < M.length := fun i hi => by
  unfold onI onK at hi
  exact List.mem_range.1 (List.mem_filter.1 hi).1
theorem onI_at {M : List Dty} {d : Int} {j : Nat} (hj : j < (dOn M d).length) : ∃ i x, (onI M d)[j]? = some i ∧ (dOn M d)[j]? = some x ∧ datI M i = x := by
  have hl := onI_len M d
  obtain ⟨i, hi⟩ : ∃ i, (onI M d)[j]? = some i := ⟨_, List.getElem?_eq_getElem (by omega)⟩
  refine ⟨i, datI M i, hi, ?_, rfl⟩
  rw [← onI_dat M d, List.getElem?_map, hi]; rfl
/-- The positions that a mask chooses. -/
def pM (n m : Nat) : List Nat := (List.range n).filter fun j => m.testBit j
theorem sub_pM (l : List Nat) (m : Nat) : subI l m = (pM l.length m).map fun j => l[j]?.getD 0 := rfl
theorem sub_plen (l : List Nat) (m : Nat) : (subI l m).length = (pM l.length m).length := by rw [sub_pM, List.length_map]
theorem pM_lt {n m j : Nat} (h : j ∈ pM n m) : j < n := List.mem_range.1 (List.mem_filter.1 h).1
/-- Whoever may stand in a chosen match. -/
theorem able_pos {M : List Dty} {U : List Ump} {d : Int} (P : List Nat) (hP : ∀ j ∈ P, j < (dOn M d).length) : ableW M U (P.map fun j => (onI M d)[j]?.getD 0) = ableN (mayD M U d) U.length P := by
  unfold ableW ableF ableN
  rw [countP_rng]
  refine List.countP_congr fun u hu => ?_
  have hul := List.mem_range.1 hu
  rw [List.getElem?_eq_getElem hul]
  show (((P.map fun j => (onI M d)[j]?.getD 0).map (datI M)).any fun x => mayB x U[u]) = true ↔ _
  rw [List.any_eq_true, List.any_eq_true]
  constructor
  · rintro ⟨x, hx, hm⟩
    rw [List.map_map] at hx
    obtain ⟨j, hj, rfl⟩ := List.mem_map.1 hx
    obtain ⟨i, y, h1, h2, h3⟩ := onI_at (M := M) (d := d) (hP j hj)
    refine ⟨j, hj, ?_⟩
    rw [rG_day h2]
    refine row_at (List.getElem?_eq_getElem hul) ?_
    simp only [Function.comp, h1, Option.getD_some, h3] at hm
    exact hm
  · rintro ⟨j, hj, hm⟩
    obtain ⟨i, y, h1, h2, h3⟩ := onI_at (M := M) (d := d) (hP j hj)
    rw [rG_day h2] at hm
    obtain ⟨z, z1, z2⟩ := row_inv hm
    rw [List.getElem?_eq_getElem hul] at z1
    refine ⟨y, ?_, by rw [Option.some.inj z1]; exact z2⟩
    rw [List.map_map]
    exact List.mem_map.2 ⟨j, hj, by simp only [Function.comp, h1, Option.getD_some, h3]⟩
theorem df_pos (M : List Dty) (U : List Ump) (d : Int) (m : Nat) : dfW M U (subI (onI M d) m) = 2 * ((pM (dOn M d).length m).length : Int) - (ableN (mayD M U d) U.length (pM (dOn M d).length m) : Int) := by
  unfold dfW
  rw [sub_plen, sub_pM, onI_len, able_pos _ (fun j hj => pM_lt hj)]
/-! The best set so far -/
structure WInv (M : List Dty) (U : List Ump) (l : List Nat) (k : Nat) (b : List Nat) (mo : Int) : Prop where
  ge : 0 ≤ mo
  zero : mo = 0 → b = []
  ex : 0 < mo → ∃ j, 1 ≤ j ∧ j < k ∧ b = subI l j ∧ mo = dfW M U (subI l j)
  all : ∀ j, 1 ≤ j → j < k → dfW M U (subI l j) ≤ mo ∧ (dfW M U (subI l j) = mo → 0 < mo → b.length ≤ (subI l j).length)
theorem wInv (M : List Dty) (U : List Ump) (l : List Nat) : ∀ k, WInv M U l k (wK M U l k).1 (wK M U l k).2 := by
  intro k
  induction k with
  | zero => exact ⟨by simp [wK], fun _ => rfl, fun h => by simp [wK] at h, fun j h1 h2 => by omega⟩
  | succ k ih =>
    by_cases hk0 : k = 0
    · subst hk0
      exact ⟨by simp [wK], fun _ => rfl, fun h => by simp [wK] at h, fun j h1 h2 => by omega⟩
    · have e : wK M U l (k + 1) = stW (wK M U l k) (subI l k) (dfW M U (subI l k)) := by
        show (if k = 0 then ([], 0) else _) = _
        rw [if_neg hk0]
      rw [e]
      obtain ⟨⟨b, mo⟩, hw⟩ : ∃ p, wK M U l k = p := ⟨_, rfl⟩
      rw [hw] at ih ⊢
      dsimp only at ih
      obtain ⟨D, hD⟩ : ∃ D, dfW M U (subI l k) = D := ⟨_, rfl⟩
      rw [hD]
      unfold stW
      dsimp only
      by_cases hc : mo < D ∨ (D = mo ∧ 0 < D ∧ (subI l k).length < b.length)
      · rw [if_pos hc]
        dsimp only
        have hge := ih.ge
        have hD0 : 0 < D := by omega
        refine ⟨by omega, fun h => by omega, fun _ => ⟨k, by omega, by omega, rfl, hD.symm⟩, fun j h1 h2 => ?_⟩
        by_cases ej : j = k
        · subst ej
          exact ⟨by omega, fun _ _ => Nat.le_refl _⟩
        · obtain ⟨h3, h4⟩ := ih.all j h1 (by omega)
          refine ⟨by omega, fun h5 _ => ?_⟩
          rcases hc with h6 | ⟨h6, h7, h8⟩
          · omega
          · have := h4 (by omega) (by omega); omega
      · rw [if_neg hc]
        dsimp only
        refine ⟨ih.ge, ih.zero, fun h => ?_, fun j h1 h2 => ?_⟩
        · obtain ⟨j, h1, h2, h3⟩ := ih.ex h
          exact ⟨j, h1, by omega, h3⟩
        · by_cases ej : j = k
          · subst ej
            refine ⟨by omega, fun h3 h4 => ?_⟩
            rw [hD] at h3
            exact Classical.byContradiction fun h5 => hc (Or.inr ⟨h3, by omega, by omega⟩)
          · exact ih.all j h1 (by omega)
theorem mask_of (p : Nat → Bool) : ∀ n, ∃ m, m < 2 ^ n ∧ ∀ j, j < n → m.testBit j = p j := by
  intro n
  induction n with
  | zero => exact ⟨0, by simp, fun j hj => by omega⟩
  | succ n ih =>
    obtain ⟨m, h1, h2⟩ := ih
    have hn : m.testBit n = false := Nat.testBit_lt_two_pow h1
    by_cases hp : p n = true
    · refine ⟨m ||| 2 ^ n, Nat.or_lt_two_pow (Nat.lt_trans h1 (Nat.pow_lt_pow_right (by decide) (by omega))) (Nat.pow_lt_pow_right (by decide) (by omega)), fun j hj => ?_⟩
      rw [Nat.testBit_or, Nat.testBit_two_pow]
      by_cases e : j = n
      · subst e; rw [hn, hp]; simp
      · rw [h2 j (by omega), decide_eq_false (fun h => e h.symm), Bool.or_false]
    · refine ⟨m, Nat.lt_trans h1 (Nat.pow_lt_pow_right (by decide) (by omega)), fun j hj => ?_⟩
      by_cases e : j = n
      · subst e; rw [hn]; simpa using hp
      · exact h2 j (by omega)
theorem pM_of {p : Nat → Bool} {n m : Nat} (h : ∀ j, j < n → m.testBit j = p j) : pM n m = (List.range n).filter p :=
  List.filter_congr fun j hj => h j (List.mem_range.1 hj)
theorem full_def {may : List (List Bool)} {nm : Nat} {us0 g : List Int} (hf : Full may nm (List.replicate nm 2) us0 g) (p : Nat → Bool) : 2 * ((List.range nm).filter p).length ≤ ableN may us0.length ((List.range nm).filter p) := by
  have h1 := cnt_sum ((List.range nm).filter p) (List.Pairwise.filter _ List.nodup_range) g
  have h2 : (((List.range nm).filter p).map (cntU g)).sum = 2 * ((List.range nm).filter p).length := by
    rw [← sum_const]
    congr 1
    refine List.map_congr_left fun x hx => ?_
    have hxn := List.mem_range.1 (List.mem_filter.1 hx).1
    rw [hf.cnt x hxn, List.getElem?_replicate, if_pos hxn]; rfl
  rw [← h2, h1, countP_range, hf.len]
  unfold ableN
  refine (countP_mono' _ _ _ fun u _ hu => ?_).1
  rw [decide_eq_true_eq] at hu
  obtain ⟨x, hx, he⟩ := hu
  refine List.any_eq_true.2 ⟨x, hx, ?_⟩
  rcases hf.val u with e | e | ⟨y, _, hy, hb⟩
  · omega
  · omega
  · have : y = x := by omega
    subst this
    exact hb
def wD (M : List Dty) (U : List Ump) (d : Int) : List Nat × Int := wK M U (onI M d) (2 ^ (onI M d).length)
theorem worst_good {M : List Dty} {U : List Ump} {d : Int} (h : badB M U d = false) : (wD M U d).2 = 0 := by
  have hi := wInv M U (onI M d) (2 ^ (onI M d).length)
  have hge := hi.ge
  refine Classical.byContradiction fun hne => ?_
  obtain ⟨j, h1, h2, h3, h4⟩ := hi.ex (by unfold wD at hne; omega)
  have hlk : (lkD M U d).1 = [] := by
    unfold badB at h
    exact List.eq_nil_of_length_eq_zero (by simpa using h)
  obtain ⟨g, hg⟩ := (fill_iff (may := mayD M U d) (nm := (dOn M d).length) (need := List.replicate (dOn M d).length 2) (n := U.length) (by simp) (by simp) (fresh_rep U.length)).1 (show (fillF (mayD M U d) U.length (List.replicate (dOn M d).length 2) 0 (List.replicate U.length (-1)) []).1 = [] from hlk)
  have h5 := full_def hg fun x => j.testBit x
  rw [List.length_replicate] at h5
  rw [df_pos] at h4
  unfold wD at hne
  unfold pM at h4
  omega
theorem worst_bad {M : List Dty} {U : List Ump} {d : Int} (h : badB M U d = true) : 0 < (wD M U d).2 ∧ numW M (wD M U d).1 = numsD M U d := by
  have hi := wInv M U (onI M d) (2 ^ (onI M d).length)
  have hlk : (lkD M U d).1 ≠ [] := fun e => by unfold badB at h; rw [e] at h; simp at h
  have hdef := lack_def (may := mayD M U d) (nm := (dOn M d).length) (n := U.length) (us0 := List.replicate U.length (-1)) (by simp) (clear_rep _) (fun x u hx => by simpa using row_lt hx) hlk
  rw [List.length_replicate] at hdef
  obtain ⟨inn, hinn⟩ : ∃ inn, lackF (mayD M U d) (lkD M U d).2 (dOn M d).length (lkD M U d).1 = inn := ⟨_, rfl⟩
  have hdef : Def (mayD M U d) (dOn M d).length U.length (fun x => bG inn x) := by rw [← hinn]; exact hdef
  obtain ⟨mR, hm1, hm2⟩ := mask_of (fun x => bG inn x) (dOn M d).length
  have hPR := pM_of hm2
  have hpos := hdef.pos
  rw [← hPR] at hpos
  have hm0 : 1 ≤ mR := by
    refine Classical.byContradiction fun hn => ?_
    have e : mR = 0 := by omega
    subst e
    have : pM (dOn M d).length 0 = [] := by unfold pM; simp
    rw [this] at hpos
    simp at hpos
  have hmN : mR < 2 ^ (onI M d).length := by rw [onI_len]; exact hm1
  obtain ⟨a1, a2⟩ := hi.all mR hm0 hmN
  rw [df_pos] at a1 a2
  have hmo : 0 < (wD M U d).2 := by unfold wD; omega
  obtain ⟨j, j1, j2, j3, j4⟩ := hi.ex hmo
  have hmax := hdef.max fun x => j.testBit x
  rw [← hPR] at hmax
  rw [df_pos] at j4
  have hmax' : 2 * (pM (dOn M d).length j).length + ableN (mayD M U d) U.length (pM (dOn M d).length mR) ≤ 2 * (pM (dOn M d).length mR).length + ableN (mayD M U d) U.length (pM (dOn M d).length j) := hmax
  have heq : 2 * (pM (dOn M d).length j).length + ableN (mayD M U d) U.length (pM (dOn M d).length mR) = 2 * (pM (dOn M d).length mR).length + ableN (mayD M U d) U.length (pM (dOn M d).length j) := by omega
  have hlen := a2 (by omega) hmo
  rw [j3, sub_plen, sub_plen, onI_len] at hlen
  have hmin := hdef.min (fun x => j.testBit x) (by rw [← hPR]; exact heq)
  have hsame : pM (dOn M d).length j = pM (dOn M d).length mR := by
    obtain ⟨c1, c2⟩ := countP_mono' (List.range (dOn M d).length) (fun x => bG inn x) (fun x => j.testBit x) (fun x hx hr => hmin x (List.mem_range.1 hx) hr)
    rw [List.countP_eq_length_filter, List.countP_eq_length_filter] at c1 c2
    rw [hPR] at hlen ⊢
    have c3 := c2 (Nat.le_antisymm c1 hlen)
    refine List.filter_congr fun x hx => ?_
    rw [Bool.eq_iff_iff]
    exact ⟨c3 x hx, hmin x (List.mem_range.1 hx)⟩
  refine ⟨hmo, ?_⟩
  have hb : (wD M U d).1 = subI (onI M d) j := j3
  rw [hb, sub_pM, onI_len, hsame, hPR]
  unfold numsD numW outI
  rw [hinn, List.map_map]
  refine List.map_congr_left fun x hx => ?_
  obtain ⟨i, y, h1, h2, h3⟩ := onI_at (M := M) (d := d) (List.mem_range.1 (List.mem_filter.1 hx).1)
  show (datI M ((onI M d)[x]?.getD 0)).m = numAt (dOn M d) x
  unfold numAt
  rw [h1, h2, Option.getD_some, h3]
  rfl

def frI (M : List Dty) (U : List Ump) (L : List Apd) (x : Dty) (u : Nat) : Bool := (U[u]?.map (frB M L x)).getD false
def frL (M : List Dty) (U : List Ump) (L : List Apd) (x : Dty) : List Nat := (List.range U.length).filter (frI M U L x)
theorem free_idx (M : List Dty) (U : List Ump) (L : List Apd) (x : Dty) : ∀ k, k ≤ U.length → freeN M U L x k = ((List.range k).filter (frI M U L x)).map fun u : Nat => nmU U (u : Int) := by
  intro k
  induction k with
  | zero => intro _; rfl
  | succ k ih =>
    intro hk
    obtain ⟨y, hy⟩ : ∃ y, U[k]? = some y := ⟨_, List.getElem?_eq_getElem (by omega)⟩
    rw [freeN_next hy, ih (by omega), List.range_succ, List.filter_append, List.map_append]
    congr 1
    have e : frI M U L x k = frB M L x y := by unfold frI; rw [hy]; rfl
    rw [List.filter_cons, e]
    split
    · simp [nmU_of hy]
    · rfl
theorem free_frL (M : List Dty) (U : List Ump) (L : List Apd) (x : Dty) : freeN M U L x U.length = (frL M U L x).map fun u : Nat => nmU U (u : Int) := free_idx M U L x U.length (Nat.le_refl _)
theorem frL_asc (M : List Dty) (U : List Ump) (L : List Apd) (x : Dty) : (frL M U L x).Pairwise (· < ·) := List.Pairwise.filter _ List.pairwise_lt_range
theorem frL_mem {M : List Dty} {U : List Ump} {L : List Apd} {x : Dty} {u : Nat} : u ∈ frL M U L x ↔ ∃ y, U[u]? = some y ∧ mayB x y = true ∧ takB M L L.length x.d y.nm = false := by
  unfold frL
  rw [List.mem_filter, List.mem_range]
  unfold frI
  constructor
  · rintro ⟨h1, h2⟩
    rw [List.getElem?_eq_getElem h1] at h2
    have h2 : frB M L x U[u] = true := h2
    unfold frB at h2
    rw [Bool.and_eq_true] at h2
    exact ⟨U[u], List.getElem?_eq_getElem h1, h2.1, by simpa using h2.2⟩
  · rintro ⟨y, h1, h2, h3⟩
    refine ⟨(List.getElem?_eq_some_iff.1 h1).1, ?_⟩
    rw [h1]
    show frB M L x y = true
    unfold frB
    rw [h2, h3]; rfl
theorem nmF_at {M : List Dty} {U : List Ump} {L : List Apd} {x : Dty} {a u : Nat} (h : (frL M U L x)[a]? = some u) : nmF (freeN M U L x U.length) a = nmU U (u : Int) := by
  unfold nmF
  rw [free_frL, List.getElem?_map, h]; rfl
theorem pre_at {M : List Dty} {U : List Ump} {Z0 : List (Dty × (Nat × Nat))} (hp : Z0.map Prod.fst = M.take Z0.length) {q : Nat} {e : Dty × (Nat × Nat)} (h : Z0[q]? = some e) : M[q]? = some e.1 ∧ (Z0.map (zE U))[q]? = some (zE U e) := by
  have hq := (List.getElem?_eq_some_iff.1 h).1
  have h1 : (Z0.map Prod.fst)[q]? = some e.1 := by rw [List.getElem?_map, h]; rfl
  rw [hp, List.getElem?_take, if_pos hq] at h1
  exact ⟨h1, by rw [List.getElem?_map, h]; rfl⟩
theorem ok_next {M : List Dty} {U : List Ump} (hk : CkOk M U) {Z0 : List (Dty × (Nat × Nat))} (hz : OkZ U Z0) (hp : Z0.map Prod.fst = M.take Z0.length) {x : Dty} (hx : M[Z0.length]? = some x) {u v : Nat} (huv : u < v) (hu : u ∈ frL M U (Z0.map (zE U)) x) (hv : v ∈ frL M U (Z0.map (zE U)) x) :
    OkZ U (Z0 ++ [(x, (u, v))]) ∧ (Z0 ++ [(x, (u, v))]).map Prod.fst = M.take (Z0 ++ [(x, (u, v))]).length := by
  obtain ⟨y, y1, y2, y3⟩ := frL_mem.1 hu
  obtain ⟨z, z1, z2, z3⟩ := frL_mem.1 hv
  rw [List.length_map] at y3 z3
  refine ⟨⟨fun e he => ?_, ?_⟩, ?_⟩
  · rcases List.mem_append.1 he with h | h
    · exact hz.ok e h
    · rw [List.mem_singleton] at h
      subst h
      exact ⟨huv, ⟨y, y1, y2⟩, z, z1, z2⟩
  · rw [List.pairwise_append]
    refine ⟨hz.ds, List.pairwise_singleton _ _, fun e he f hf hd => ?_⟩
    rw [List.mem_singleton] at hf
    subst hf
    obtain ⟨q, hq⟩ := List.getElem?_of_mem he
    have hql := (List.getElem?_eq_some_iff.1 hq).1
    obtain ⟨k1, k2⟩ := pre_at (U := U) hp hq
    obtain ⟨a1, a2⟩ := tak_no y3 hql k1 k2 hd
    obtain ⟨b1, b2⟩ := tak_no z3 hql k1 k2 hd
    have n1 : nmU U (u : Int) = y.nm := nmU_of y1
    have n2 : nmU U (v : Int) = z.nm := nmU_of z1
    unfold zE at a1 a2 b1 b2
    dsimp only at a1 a2 b1 b2
    rw [← n1] at a1 a2
    rw [← n2] at b1 b2
    exact ⟨fun c => a1 (by rw [c]), fun c => b1 (by rw [c]), fun c => a2 (by rw [c]), fun c => b2 (by rw [c])⟩
  · rw [List.map_append, hp, List.length_append, List.length_singleton, List.take_add_one, hx]
    rfl
theorem free_of {M : List Dty} {U : List Ump} (hk : CkOk M U) {Z : List (Dty × (Nat × Nat))} (hz : OkZ U Z) (hm : Z.map Prod.fst = M) {i : Nat} {e : Dty × (Nat × Nat)} (he : Z[i]? = some e) : e.2.1 ∈ frL M U ((Z.take i).map (zE U)) e.1 ∧ e.2.2 ∈ frL M U ((Z.take i).map (zE U)) e.1 := by
  have hil := (List.getElem?_eq_some_iff.1 he).1
  obtain ⟨_, ⟨ya, a1, a2⟩, yb, b1, b2⟩ := hz.ok e (List.mem_of_getElem? he)
  have hlen : ((Z.take i).map (zE U)).length = i := by rw [List.length_map, List.length_take]; omega
  have htk : ∀ u y, (u = e.2.1 ∨ u = e.2.2) → U[u]? = some y → takB M ((Z.take i).map (zE U)) ((Z.take i).map (zE U)).length e.1.d y.nm = false := fun u y hu hy => by
    rw [hlen]
    refine tak_none fun q hq => ?_
    obtain ⟨f, hf⟩ : ∃ f, Z[q]? = some f := ⟨_, List.getElem?_eq_getElem (by omega)⟩
    have f1 : M[q]? = some f.1 := by rw [← hm, List.getElem?_map, hf]; rfl
    have f2 : ((Z.take i).map (zE U))[q]? = some (zE U f) := by rw [List.getElem?_map, List.getElem?_take, if_pos hq, hf]; rfl
    unfold stN
    rw [f1, f2]
    dsimp only
    obtain ⟨_, ⟨yc, c1, _⟩, yd, d1, _⟩ := hz.ok f (List.mem_of_getElem? hf)
    by_cases hd : f.1.d = e.1.d
    · have hp := List.pairwise_iff_getElem.1 hz.ds q i (by omega) hil hq
      rw [(List.getElem?_eq_some_iff.1 hf).2, (List.getElem?_eq_some_iff.1 he).2] at hp
      obtain ⟨p1, p2, p3, p4⟩ := hp hd
      have e1 : seq (zE U f).one y.nm = false := by
        show seq (nmU U f.2.1) y.nm = false
        rw [nmU_of c1]
        refine nm_ne hk ?_ c1 hy
        rcases hu with rfl | rfl
        · exact p1
        · exact p2
      have e2 : seq (zE U f).two y.nm = false := by
        show seq (nmU U f.2.2) y.nm = false
        rw [nmU_of d1]
        refine nm_ne hk ?_ d1 hy
        rcases hu with rfl | rfl
        · exact p3
        · exact p4
      rw [e1, e2]; simp
    · rw [show (f.1.d == e.1.d) = false by simpa using hd]; simp
  exact ⟨frL_mem.2 ⟨ya, a1, a2, htk _ _ (Or.inl rfl) a1⟩, frL_mem.2 ⟨yb, b1, b2, htk _ _ (Or.inr rfl) b1⟩⟩
def LexL (Z Z' : List (Dty × (Nat × Nat))) : Prop := ∀ (k : Nat) (e f : Dty × (Nat × Nat)), Z.take k = Z'.take k → Z[k]? = some e → Z'[k]? = some f → e.2.1 < f.2.1 ∨ e.2.1 = f.2.1 ∧ e.2.2 ≤ f.2.2
theorem cmp_spec {M : List Dty} {U : List Ump} (hk : CkOk M U) : ∀ (n : Nat) (Z0 : List (Dty × (Nat × Nat))) (r : Option (List Apd)), OkZ U Z0 → Z0.map Prod.fst = M.take Z0.length → Z0.length + n = M.length → Cmp M U n (Z0.map (zE U)) r →
    (r = none → ∀ Z, OkZ U Z → Z.map Prod.fst = M → Z.take Z0.length = Z0 → False) ∧
    ∀ K, r = some K → ∃ Z, K = Z.map (zE U) ∧ OkZ U Z ∧ Z.map Prod.fst = M ∧ Z.take Z0.length = Z0 ∧ ∀ Z', OkZ U Z' → Z'.map Prod.fst = M → Z'.take Z0.length = Z0 → LexL Z Z' := by
  intro n
  induction n with
  | zero =>
    intro Z0 r hz hp hl hc
    have hc : r = some (Z0.map (zE U)) := hc
    subst hc
    refine ⟨fun h => (by cases h), fun K hK => ⟨Z0, (Option.some.inj hK).symm, hz, ?_, List.take_length, fun Z' hz' hm' ht => ?_⟩⟩
    · rw [hp, List.take_of_length_le (by omega)]
    · have hlen : Z'.length = M.length := by rw [← hm', List.length_map]
      rw [List.take_of_length_le (by omega)] at ht
      subst ht
      intro k e f _ he hf
      rw [he] at hf
      have := Option.some.inj hf
      subst this
      exact Or.inr ⟨rfl, Nat.le_refl _⟩
  | succ n ih =>
    intro Z0 r hz hp hl hc
    obtain ⟨x, hx, hc⟩ := hc
    rw [List.length_map] at hx
    obtain ⟨FI, hFI⟩ : ∃ FI, frL M U (Z0.map (zE U)) x = FI := ⟨_, rfl⟩
    have hFl : (freeN M U (Z0.map (zE U)) x U.length).length = FI.length := by rw [free_frL, List.length_map, hFI]
    have hasc : FI.Pairwise (· < ·) := by rw [← hFI]; exact frL_asc _ _ _ _
    have hnx : ∀ a b u v, FI[a]? = some u → FI[b]? = some v → nx (Z0.map (zE U)) x (freeN M U (Z0.map (zE U)) x U.length) a b = (Z0 ++ [(x, (u, v))]).map (zE U) := fun a b u v ha hb => by
      unfold nx
      rw [nmF_at (by rw [hFI]; exact ha), nmF_at (by rw [hFI]; exact hb), List.map_append]
      rfl
    have hlt : ∀ {a b u v : Nat}, FI[a]? = some u → FI[b]? = some v → a < b → u < v := fun ha hb hab => by
      have := List.pairwise_iff_getElem.1 hasc _ _ (List.getElem?_eq_some_iff.1 ha).1 (List.getElem?_eq_some_iff.1 hb).1 hab
      rwa [(List.getElem?_eq_some_iff.1 ha).2, (List.getElem?_eq_some_iff.1 hb).2] at this
    -- each pair: what follows behind it
    have hih : ∀ a b u v r', a < b → FI[a]? = some u → FI[b]? = some v → Cmp M U n (nx (Z0.map (zE U)) x (freeN M U (Z0.map (zE U)) x U.length) a b) r' → _ := fun a b u v r' hab ha hb hc' =>
      ih (Z0 ++ [(x, (u, v))]) r' (ok_next hk hz hp hx (hlt ha hb hab) (by rw [hFI]; exact List.mem_of_getElem? ha) (by rw [hFI]; exact List.mem_of_getElem? hb)).1 (ok_next hk hz hp hx (hlt ha hb hab) (by rw [hFI]; exact List.mem_of_getElem? ha) (by rw [hFI]; exact List.mem_of_getElem? hb)).2 (by rw [List.length_append, List.length_singleton]; omega) (by rw [← hnx a b u v ha hb]; exact hc')
    -- a full one takes one of the pairs
    have hpair : ∀ Z, OkZ U Z → Z.map Prod.fst = M → Z.take Z0.length = Z0 → ∃ a b u v, a < b ∧ b < FI.length ∧ FI[a]? = some u ∧ FI[b]? = some v ∧ Z[Z0.length]? = some (x, (u, v)) ∧ Z.take (Z0 ++ [(x, (u, v))]).length = Z0 ++ [(x, (u, v))] := fun Z hz' hm ht => by
      have hlen : Z.length = M.length := by rw [← hm, List.length_map]
      obtain ⟨e, he⟩ : ∃ e, Z[Z0.length]? = some e := ⟨_, List.getElem?_eq_getElem (by omega)⟩
      have hex : e.1 = x := by
        have h1 : M[Z0.length]? = some e.1 := by rw [← hm, List.getElem?_map, he]; rfl
        rw [hx] at h1
        exact (Option.some.inj h1).symm
      obtain ⟨h1, h2⟩ := free_of hk hz' hm he
      rw [ht, hex, hFI] at h1 h2
      obtain ⟨a, ha⟩ := List.getElem?_of_mem h1
      obtain ⟨b, hb⟩ := List.getElem?_of_mem h2
      have huv := (hz'.ok e (List.mem_of_getElem? he)).lt
      have hab : a < b := by
        rcases Nat.lt_trichotomy a b with k | k | k
        · exact k
        · subst k; rw [ha] at hb; have := Option.some.inj hb; omega
        · have := hlt hb ha k; omega
      have hee : e = (x, (e.2.1, e.2.2)) := by rw [← hex]
      refine ⟨a, b, e.2.1, e.2.2, hab, (List.getElem?_eq_some_iff.1 hb).1, ha, hb, by rw [← hee]; exact he, ?_⟩
      rw [List.length_append, List.length_singleton, List.take_add_one, he, ht, ← hee]
      rfl
    rw [hFl] at hc
    rcases hc with ⟨a, b, K, hab, hbl, hr, hcK, hno⟩ | ⟨hr, hno⟩
    · subst hr
      refine ⟨fun h => (by cases h), fun K' hK' => ?_⟩
      have hK' := Option.some.inj hK'
      subst hK'
      obtain ⟨u, hu⟩ : ∃ u, FI[a]? = some u := ⟨_, List.getElem?_eq_getElem (by omega)⟩
      obtain ⟨v, hv⟩ : ∃ v, FI[b]? = some v := ⟨_, List.getElem?_eq_getElem hbl⟩
      obtain ⟨_, h2⟩ := hih a b u v (some K) hab hu hv hcK
      obtain ⟨Z, z1, z2, z3, z4, z5⟩ := h2 K rfl
      have z40 : Z.take Z0.length = Z0 := by
        have := congrArg (fun l => l.take Z0.length) z4
        simp only [List.take_take] at this
        rw [Nat.min_eq_left (by simp), List.take_append_of_le_length (Nat.le_refl _), List.take_length] at this
        exact this
      refine ⟨Z, z1, z2, z3, z40, fun Z' hz' hm' ht' => ?_⟩
      obtain ⟨a', b', u', v', hab', hbl', hu', hv', hat', htk'⟩ := hpair Z' hz' hm' ht'
      by_cases hfst : a' < a ∨ (a' = a ∧ b' < b)
      · exact ((hih a' b' u' v' none hab' hu' hv' (hno a' b' hab' hbl' hfst)).1 rfl Z' hz' hm' htk').elim
      · have hat : Z[Z0.length]? = some (x, (u, v)) := by
          have h6 : (Z.take (Z0 ++ [(x, (u, v))]).length)[Z0.length]? = some (x, (u, v)) := by
            rw [z4, List.getElem?_append_right (Nat.le_refl _)]; simp
          rwa [List.getElem?_take, if_pos (by simp)] at h6
        have hle : u < u' ∨ u = u' ∧ v ≤ v' := by
          by_cases h7 : a < a'
          · exact Or.inl (hlt hu hu' h7)
          · have h8 : a' = a := by omega
            subst h8
            rw [hu] at hu'
            refine Or.inr ⟨Option.some.inj hu', ?_⟩
            by_cases h9 : b = b'
            · subst h9; rw [hv] at hv'; have := Option.some.inj hv'; omega
            · have := hlt hv hv' (by omega); omega
        intro k e f htk he hf
        rcases Nat.lt_trichotomy k Z0.length with h10 | h10 | h10
        · have h11 : (Z.take Z0.length)[k]? = (Z'.take Z0.length)[k]? := by rw [z40, ht']
          rw [List.getElem?_take, if_pos h10, List.getElem?_take, if_pos h10, he, hf] at h11
          have := Option.some.inj h11
          subst this
          exact Or.inr ⟨rfl, Nat.le_refl _⟩
        · subst h10
          rw [hat] at he
          rw [hat'] at hf
          rw [← Option.some.inj he, ← Option.some.inj hf]
          exact hle
        · have hsame : Z'.take (Z0 ++ [(x, (u, v))]).length = Z0 ++ [(x, (u, v))] := by
            refine Eq.trans ?_ z4
            have h12 := congrArg (fun l => l.take (Z0 ++ [(x, (u, v))]).length) htk
            simp only [List.take_take] at h12
            rw [Nat.min_eq_left (by simp; omega)] at h12
            exact h12.symm
          exact z5 Z' hz' hm' hsame k e f htk he hf
    · subst hr
      refine ⟨fun _ Z hz' hm ht => ?_, fun K hK => (by cases hK)⟩
      obtain ⟨a, b, u, v, hab, hbl, hu, hv, _, htk⟩ := hpair Z hz' hm ht
      exact (hih a b u v none hab hu hv (hno a b hab hbl)).1 rfl Z hz' hm htk
theorem lex_eq {M : List Dty} {Z Z' : List (Dty × (Nat × Nat))} (hm : Z.map Prod.fst = M) (hm' : Z'.map Prod.fst = M) (h : LexL Z Z') (h' : LexL Z' Z) : Z = Z' := by
  have hl : Z.length = M.length := by rw [← hm, List.length_map]
  have hl' : Z'.length = M.length := by rw [← hm', List.length_map]
  have key : ∀ k, k ≤ M.length → Z.take k = Z'.take k := by
    intro k
    induction k with
    | zero => intro _; rfl
    | succ k ih =>
      intro hk
      have h1 := ih (by omega)
      obtain ⟨e, he⟩ : ∃ e, Z[k]? = some e := ⟨_, List.getElem?_eq_getElem (by omega)⟩
      obtain ⟨f, hf⟩ : ∃ f, Z'[k]? = some f := ⟨_, List.getElem?_eq_getElem (by omega)⟩
      have e1 : M[k]? = some e.1 := by rw [← hm, List.getElem?_map, he]; rfl
      have e2 : M[k]? = some f.1 := by rw [← hm', List.getElem?_map, hf]; rfl
      have e3 : e.1 = f.1 := by rw [e1] at e2; exact Option.some.inj e2
      have p1 := h k e f h1 he hf
      have p2 := h' k f e h1.symm hf he
      have e4 : e = f := Prod.ext e3 (Prod.ext (by omega) (by omega))
      rw [List.take_add_one, List.take_add_one, he, hf, h1, e4]
  have := key M.length (Nat.le_refl _)
  rwa [List.take_of_length_le (by omega), List.take_of_length_le (by omega)] at this
theorem cmp_app {M : List Dty} {U : List Ump} (hk : CkOk M U) (hb : badD M U = none) {r : Option (List Apd)} (h : Cmp M U M.length [] r) : r = some (M.map (outE M U)) := by
  obtain ⟨h1, h2, h3⟩ := app_ok hk hb
  obtain ⟨c1, c2⟩ := cmp_spec hk M.length [] r ⟨fun e he => by simp at he, List.Pairwise.nil⟩ (by simp) (by simp) h
  cases r with
  | none => exact (c1 rfl _ h1 h2 rfl).elim
  | some K =>
    obtain ⟨Z, z1, z2, z3, _, z5⟩ := c2 K rfl
    have e1 := z5 _ h1 h2 rfl
    have e2 : LexL (zApp M U) Z := fun k e f ht he hf => (app_least hk hb z2 z3 ht he hf).2
    rw [z1, lex_eq z3 h2 e1 e2, h3]
theorem sorted_find {l : List Int} {p : Int → Bool} {d : Int} (hs : l.Pairwise (· ≤ ·)) (hd : d ∈ l) (hp : p d = true) (hmin : ∀ x ∈ l, p x = true → d ≤ x) : l.find? p = some d := by
  cases h : l.find? p with
  | none => rw [List.find?_eq_none] at h; exact (h d hd hp).elim
  | some y =>
    have h1 := List.find?_some h
    have h2 := List.mem_of_find?_eq_some h
    have h3 := hmin y h2 h1
    obtain ⟨_, as', bs, e, hno⟩ := List.find?_eq_some_iff_append.1 h
    rw [e] at hd hs
    rcases List.mem_append.1 hd with k | k
    · have := hno d k; rw [hp] at this; simp at this
    · rcases List.mem_cons.1 k with k | k
      · rw [k]
      · have h5 := (List.pairwise_cons.1 (List.pairwise_append.1 hs).2.1).1 d k
        rw [show y = d by omega]
theorem sortL_asc (l : List Int) : (sortL l).Pairwise (· ≤ ·) := by
  have h := List.pairwise_mergeSort (le := fun x y : Int => decide (x ≤ y)) (fun a b c h1 h2 => by simp at *; omega) (fun a b => by simp; omega) l
  unfold sortL
  exact h.imp fun h => by simpa using h
theorem bad_first {M : List Dty} {U : List Ump} {d : Int} (hd : ∃ x ∈ M, x.d = d) (hb : badB M U d = true) (hmin : ∀ x ∈ M, badB M U x.d = true → d ≤ x.d) : badD M U = some d := by
  have hmem : ∀ y, y ∈ sortL (daysL M) ↔ ∃ x ∈ M, x.d = y := fun y => by
    rw [sortL_mem, days_mem]
    constructor
    · intro h
      obtain ⟨x, hx⟩ := List.exists_mem_of_ne_nil _ h
      exact ⟨x, on_mem hx⟩
    · rintro ⟨x, h1, h2⟩ hn
      have : x ∈ dOn M y := by unfold dOn; rw [List.mem_filter]; exact ⟨h1, by simpa using h2⟩
      rw [hn] at this
      simp at this
  exact sorted_find (sortL_asc _) ((hmem d).2 hd) hb fun y hy hp => by
    obtain ⟨x, h1, h2⟩ := (hmem y).1 hy
    rw [← h2] at hp ⊢
    exact hmin x h1 hp
theorem bad_none {M : List Dty} {U : List Ump} (h : ∀ x ∈ M, badB M U x.d = false) : badD M U = none := by
  unfold badD
  rw [List.find?_eq_none]
  intro d hd
  rw [sortL_mem, days_mem] at hd
  obtain ⟨x, hx⟩ := List.exists_mem_of_ne_nil _ hd
  obtain ⟨h1, h2⟩ := on_mem hx
  rw [← h2, h x h1]
  decide

structure FsI (M : List Dty) (U : List Ump) (k : Nat) (first : Int) (found : Bool) : Prop where
  no : found = false → ∀ j x, j < k → M[j]? = some x → badB M U x.d = false
  yes : found = true → badB M U first = true ∧ (∃ x ∈ M, x.d = first) ∧ ∀ j x, j < k → M[j]? = some x → badB M U x.d = true → first ≤ x.d
theorem FsI.skip {M : List Dty} {U : List Ump} {k : Nat} {first : Int} {found : Bool} {x : Dty} (h : FsI M U k first found) (hx : M[k]? = some x) (hb : badB M U x.d = false ∨ (found = true ∧ first ≤ x.d)) : FsI M U (k + 1) first found := by
  refine ⟨fun hf j y hj hy => ?_, fun hf => ⟨(h.yes hf).1, (h.yes hf).2.1, fun j y hj hy hby => ?_⟩⟩
  · by_cases e : j = k
    · subst e
      rw [hx] at hy
      rw [← Option.some.inj hy]
      rcases hb with hb | ⟨hb, _⟩
      · exact hb
      · rw [hf] at hb; cases hb
    · exact h.no hf j y (by omega) hy
  · by_cases e : j = k
    · subst e
      rw [hx] at hy
      have := Option.some.inj hy
      subst this
      rcases hb with hb | ⟨_, hb⟩
      · rw [hb] at hby; cases hby
      · exact hb
    · exact (h.yes hf).2.2 j y (by omega) hy hby
theorem FsI.take {M : List Dty} {U : List Ump} {k : Nat} {first : Int} {found : Bool} {x : Dty} (h : FsI M U k first found) (hx : M[k]? = some x) (hb : badB M U x.d = true) (hc : found = false ∨ x.d < first) : FsI M U (k + 1) x.d true := by
  refine ⟨fun hf => (by cases hf), fun _ => ⟨hb, ⟨x, List.mem_of_getElem? hx, rfl⟩, fun j y hj hy hby => ?_⟩⟩
  by_cases e : j = k
  · subst e
    rw [hx] at hy
    rw [← Option.some.inj hy]
    exact Int.le_refl _
  · cases hf : found with
    | false =>
      have := h.no hf j y (by omega) hy
      rw [this] at hby
      cases hby
    | true =>
      have h1 := (h.yes hf).2.2 j y (by omega) hy hby
      rcases hc with hc | hc
      · rw [hf] at hc; cases hc
      · omega
theorem appoint_q (A B : Option Addr) (c d : Nat) (M : List Dty) (U : List Ump) (w : World) (h : TaskR w A B M U) (h10 : M.length ≤ 10) :
    Calls Try.prog 17 #[.slice A M.length c, .slice B U.length d] w fun e w' => (∃ A1 c1 A2 c2, e = .returned (.tuple #[.slice A1 (appR M U).1.length c1, .slice A2 (appR M U).2.1.length c2, .int .i64 (appR M U).2.2]) ∧ Rd apE 3 w' w'.heap.size A1 (appR M U).1 ∧ Rd iE 1 w' w'.heap.size A2 (appR M U).2.1) ∧ Below w.heap.size w w' := by
  obtain ⟨ck, hck⟩ : ∃ q, ckA M U = q := ⟨_, rfl⟩
  have HCK := Lib.hid hck
  have HC := Lib.hid (check_r A B c d M U ck w h hck)
  have HT := Lib.hid h
  have hml := h.ml
  have hul := h.ul
  clear h hck
  go_enter Try.func17, Try.ntmps17
  go_wp2_with fail
  refine HC.out.mono ?_
  rintro r1 w1 ⟨rfl, hb1⟩
  have HB1 := Lib.hid hb1
  have HT1 := Lib.hid (HT.out.to hb1)
  clear hb1 HC HT
  by_cases hc0 : ck = 0
  · subst hc0
    have HWR := Lib.hid (show ∀ (w' : World) (A9 : Option Addr) (c9 : Nat) (dd : Int), Below w1.heap.size w1 w' → Rd iE 1 w' w'.heap.size A9 (nI (onI M dd)) → Calls Try.prog 36 #[.slice A M.length c, .slice B U.length d, .slice A9 (onI M dd).length c9] w' fun e w'' => (∃ A8 c8, e = .returned (.tuple #[.slice A8 (numW M (wD M U dd).1).length c8, .int .i64 (wD M U dd).2]) ∧ Rd iE 1 w'' w''.heap.size A8 (numW M (wD M U dd).1)) ∧ Below w'.heap.size w' w'' from fun w' A9 c9 dd hb hr => worst_r A B A9 c d c9 M U (onI M dd) w' (HT1.out.to hb) hr (onI_lt M dd) (by rw [onI_len]; exact Nat.le_trans (List.length_filter_le _ _) h10))
    have HON := Lib.hid (fun (w' : World) (dd : Int) (hb : Below w1.heap.size w1 w') => on_r A c M dd w' hml (HT1.out.to hb).m)
    go_wp2_with fail
    go_loopw [8, 9, 26] (fun v8 v9 iv wr => ∃ (k : Nat) (first : Int) (found : Bool), k ≤ M.length ∧ v8 = .int .i64 first ∧ v9 = .bool found ∧ iv = .int .i64 k ∧ FsI M U k first found ∧ Below w1.heap.size w1 wr) (fun _ _ i _ => M.length - (intOf i).toNat)
    case atStart => exact ⟨0, 0, false, by omega, rfl, rfl, rfl, ⟨fun _ j x hj => by omega, fun h => by cases h⟩, Below.refl _ _⟩
    case round =>
      obtain ⟨k, first, found, hk, rfl, rfl, rfl, hfs, hb⟩ := hrel
      rename World => wo
      have HFS := Lib.hid hfs
      have HB := Lib.hid hb
      clear hfs hb
      by_cases hkl : k < M.length
      · obtain ⟨x, hx⟩ : ∃ x, M[k]? = some x := ⟨_, List.getElem?_eq_getElem hkl⟩
        obtain ⟨b5, off5, hA, hb5, hcl5⟩ := HT1.out.m.at_ HB.out hx
        have HX := Lib.hid hx
        obtain ⟨q0, q1, q2, q3⟩ := dt_cells hcl5
        have l5 : b5 < wo.heap.size := Nat.lt_of_lt_of_le hb5 HB.out.size
        have HSK := Lib.hid (fun hb => HFS.out.skip hx hb)
        have HTK := Lib.hid (fun hb hc => HFS.out.take hx hb hc)
        obtain ⟨xm, xd, xh, xa⟩ := x
        dsimp only at q0 q1 q2 q3 HSK HTK
        have HW2 := Lib.hid (fun w' A9 c9 hb hr => HWR.out w' A9 c9 xd hb hr)
        have HO2 := Lib.hid (fun w' hb => HON.out w' xd hb)
        obtain ⟨mo, hmo⟩ : ∃ mo, (wD M U xd).2 = mo := ⟨_, rfl⟩
        obtain ⟨bd, hbd⟩ : ∃ bd, badB M U xd = bd := ⟨_, rfl⟩
        have HMO := Lib.hid (show (bd = true → 0 < mo) ∧ (bd = false → mo = 0) from ⟨fun h => by rw [← hmo]; exact (worst_bad (by rw [hbd]; exact h)).1, fun h => by rw [← hmo]; exact worst_good (by rw [hbd]; exact h)⟩)
        rw [hmo] at HW2
        rw [hbd] at HSK HTK
        have HAE := Lib.hid hA
        rw [hA] at HW2 HO2 ⊢
        clear hx hcl5 hA hb5 hmo hbd
        go_upto_region 8 with (fail)
        have h4 := cur_new wo (.cells #[.int .i64 xm, .int .i64 xd, .string xh, .string xa] 29)
        have k4 := Blk.new wo 29 [.int .i64 xm, .int .i64 xd, .string xh, .string xa]
        generalize wo.alloc (.cells #[.int .i64 xm, .int .i64 xd, .string xh, .string xa] 29) = w3 at h4 k4 ⊢
        obtain ⟨g4, hg4⟩ : ∃ g, wo.heap.size = g := ⟨_, rfl⟩
        rw [hg4] at k4 ⊢
        have HB3 := Lib.hid (cur_step1 HB.out h4)
        have HK3 := Lib.hid k4
        have a1 : w3.cell? ⟨g4, 1, none⟩ = some (.int .i64 xd) := k4.cell 1
        have l4 := k4.lt
        clear h4 k4 hg4 q0 q1 q2 q3
        go_upto_region 9 with (first
          | (go_at_call 37; refine (HO2.out w3 HB3.out).mono ?_; rintro r4 w4 ⟨⟨A9, c9, rfl, hr9⟩, hb4⟩; have HB4 := Lib.hid (cur_step1 HB3.out hb4); have HK4 := Lib.hid (HK3.out.to hb4); have HR9 := Lib.hid hr9; clear hr9 hb4)
          | (go_at_call 36; refine (HW2.out w4 A9 c9 HB4.out HR9.out).mono ?_; rintro r5 w5 ⟨⟨A8, c8, rfl, hr8⟩, hb5⟩; have HB5 := Lib.hid (cur_step1 HB4.out hb5); have HK5 := Lib.hid (HK4.out.to hb5); clear hr8 hb5))
        have a1 : w5.cell? ⟨g4, 1, none⟩ = some (.int .i64 xd) := HK5.out.cell 1
        have l4 := HK5.out.lt
        cases bd
        · have hm0 := HMO.out.2 rfl
          subst hm0
          have HN := Lib.hid (HSK.out (Or.inl rfl))
          clear HSK HTK HW2 HO2 HMO
          go_wp2_with fail
          first
          | (go_roundw
             case rel => exact ⟨k + 1, first, found, by omega, rfl, rfl, by simp, HN.out, HB5.out⟩
             case measure => simp [intOf]; omega)
          | exact ⟨⟨k + 1, first, found, by omega, rfl, rfl, by simp, HN.out, HB5.out⟩, by simp [intOf]; omega⟩
        · have hm1 := HMO.out.1 rfl
          cases found
          · have HN := Lib.hid (HTK.out rfl (Or.inl rfl))
            clear HSK HTK HW2 HO2 HMO
            go_wp2_with fail
            first
            | (go_roundw
               case rel => exact ⟨k + 1, xd, true, by omega, rfl, rfl, by simp, HN.out, HB5.out⟩
               case measure => simp [intOf]; omega)
            | exact ⟨⟨k + 1, xd, true, by omega, rfl, rfl, by simp, HN.out, HB5.out⟩, by simp [intOf]; omega⟩
          · by_cases hlt : xd < first
            · have HN := Lib.hid (HTK.out rfl (Or.inr hlt))
              clear HSK HTK HW2 HO2 HMO
              go_wp2_with fail
              first
              | (go_roundw
                 case rel => exact ⟨k + 1, xd, true, by omega, rfl, rfl, by simp, HN.out, HB5.out⟩
                 case measure => simp [intOf]; omega)
              | exact ⟨⟨k + 1, xd, true, by omega, rfl, rfl, by simp, HN.out, HB5.out⟩, by simp [intOf]; omega⟩
            · have HN := Lib.hid (HSK.out (Or.inr ⟨rfl, by omega⟩))
              clear HSK HTK HW2 HO2 HMO
              go_wp2_with fail
              first
              | (go_roundw
                 case rel => exact ⟨k + 1, first, true, by omega, rfl, rfl, by simp, HN.out, HB5.out⟩
                 case measure => simp [intOf]; omega)
              | exact ⟨⟨k + 1, first, true, by omega, rfl, rfl, by simp, HN.out, HB5.out⟩, by simp [intOf]; omega⟩
      · have hkM : k = M.length := by omega
        subst hkM
        cases found
        · have HBN := Lib.hid (show badD M U = none from bad_none fun x hx => by
            obtain ⟨j, hj⟩ := List.getElem?_of_mem hx
            exact HFS.out.no rfl j x (List.getElem?_eq_some_iff.1 hj).1 hj)
          have HAP := Lib.hid (show appR M U = (M.map (outE M U), [], 0) by unfold appR; rw [if_neg (by rw [HCK.out]; decide), HBN.out])
          clear HWR HON
          go_wp2_with (go_at_call 38; refine (complete_r A B c d M U h10 M.length _ 0 [] _ (HT1.out.to (cur_step1 HB.out (cur_new _ _))) Rd.nil_ (by simp)).mono ?_; rintro r4 w4 ⟨⟨A9, c9, o, rfl, hr9, hcm⟩, hb4⟩; have ho := cmp_app (ck_ok HCK.out) HBN.out hcm; subst ho; have HB4 := Lib.hid (cur_step1 HB1.out (cur_step1 (cur_step1 HB.out (cur_new _ _)) hb4)); have HR9 := Lib.hid hr9; clear hr9 hb4 hcm)
          go_ret3
          exact ⟨⟨A9, c9, none, 0, by rw [HAP.out]; show _ = Ending.returned (.tuple #[.slice A9 (M.map (outE M U)).length c9, .slice none 0 0, .int .i64 0]); rw [List.length_map]; rfl, by rw [HAP.out]; exact HR9.out, by rw [HAP.out]; exact Rd.nil_⟩, HB4.out⟩
        · obtain ⟨f1, f2, f3⟩ := HFS.out.yes rfl
          have HBN := Lib.hid (show badD M U = some first from bad_first f2 f1 fun x hx hb => by
            obtain ⟨j, hj⟩ := List.getElem?_of_mem hx
            exact f3 j x (List.getElem?_eq_some_iff.1 hj).1 hj hb)
          have HNM := Lib.hid ((worst_bad f1).2)
          have HAP := Lib.hid (show appR M U = ([], numsD M U first, 13) by unfold appR; rw [if_neg (by rw [HCK.out]; decide), HBN.out])
          have HW2 := Lib.hid (fun w' A9 c9 hb hr => HWR.out w' A9 c9 first hb hr)
          have HO2 := Lib.hid (fun w' hb => HON.out w' first hb)
          rw [HNM.out] at HW2
          clear f1 f2 f3
          go_wp2_with (first
            | (go_at_call 37; refine (HO2.out wo HB.out).mono ?_; rintro r4 w4 ⟨⟨A9, c9, rfl, hr9⟩, hb4⟩; have HB4 := Lib.hid (cur_step1 HB.out hb4); have HR9 := Lib.hid hr9; clear hr9 hb4)
            | (go_at_call 36; refine (HW2.out w4 A9 c9 HB4.out HR9.out).mono ?_; rintro r5 w5 ⟨⟨A8, c8, rfl, hr8⟩, hb5⟩; have HB5 := Lib.hid (cur_step1 HB1.out (cur_step1 HB4.out hb5)); have HR8 := Lib.hid hr8; clear hr8 hb5))
          go_ret3
          exact ⟨⟨none, 0, A8, c8, by rw [HAP.out]; rfl, by rw [HAP.out]; exact Rd.nil_, by rw [HAP.out]; exact HR8.out⟩, HB5.out⟩
  · have HE := Lib.hid (show appR M U = ([], [], ck) by unfold appR; rw [if_pos (by rw [HCK.out]; exact hc0), HCK.out])
    have e3 : (ck == 0) = false := by simpa using hc0
    go_wp2_with fail
    go_ret3
    exact ⟨⟨none, 0, none, 0, by rw [HE.out]; rfl, by rw [HE.out]; exact Rd.nil_, by rw [HE.out]; exact Rd.nil_⟩, HB1.out⟩
end Go.Proofs.Ytckbhdokfkabfaa
