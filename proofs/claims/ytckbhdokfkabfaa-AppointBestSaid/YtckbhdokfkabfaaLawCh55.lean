/-
  Chapter 55: the law AppointChecks: the walk.
-/
import Derived.Test.YtckbhdokfkabfaaAwk55
import Derived.Test.YtckbhdokfkabfaaFew55
import Derived.Test.YtckbhdokfkabfaaCk55
set_option linter.unusedSimpArgs false
set_option linter.unusedVariables false
namespace Go.Proofs.Ytckbhdokfkabfaa
open Go.RowKit
set_option maxRecDepth 100000
set_option maxHeartbeats 8000000
theorem RawU.to {w w' : World} {y : Ump} (h : RawU w y) (hb : Below w.heap.size w w') : RawU w' y := ⟨h.nm, h.tm, h.le, h.cap, h.rd.to hb⟩
/-- Slices alone in a block: no row begins in it. -/
theorem rd_box {α : Type} {enc : α → List Value} {size g e : Nat} {xs : List Value} {w w' : World} {A : Option Addr} {l : List α} (h : Rd enc size w w.heap.size A l) (hb : Blk w g e xs) (hx : ∀ (j : Nat) (u : Value), xs[j]? = some u → ∃ a n c, u = Value.slice a n c) (he : ∀ x, ∃ u, (enc x)[0]? = some u ∧ ∀ a n c, u ≠ Value.slice a n c) (hf : Far [g] w w') : Rd enc size w' w'.heap.size A l := by
  intro k x hk
  obtain ⟨b, off, rfl, hl, hc⟩ := h k x hk
  have hne : b ≠ g := by
    rintro rfl
    obtain ⟨u, hu, hn⟩ := he x
    obtain ⟨a, n, c, e⟩ := hx _ u ((hb.cell (off + k * size + 0)).symm.trans (hc 0 u hu))
    exact hn a n c e
  exact ⟨b, off, rfl, Nat.lt_of_lt_of_le hl hf.size, fun j u hu => (World.cell?_of_block (a := ⟨b, off + k * size + j, none⟩) (hf.block b hl (by simpa using hne))).trans (hc j u hu)⟩
theorem TaskR.box {g e : Nat} {xs : List Value} {w w' : World} {A B : Option Addr} {M : List Dty} {U : List Ump} (h : TaskR w A B M U) (hb : Blk w g e xs) (hx : ∀ (j : Nat) (u : Value), xs[j]? = some u → ∃ a n c, u = Value.slice a n c) (hf : Far [g] w w') : TaskR w' A B M U :=
  ⟨rd_box h.m hb hx (fun x => ⟨_, rfl, fun a n c h => nomatch h⟩) hf, ⟨rd_box h.u.rd hb hx (fun x => ⟨_, rfl, fun a n c h => nomatch h⟩) hf, fun y hy => rd_box (h.u.ds y hy) hb hx (fun x => ⟨_, rfl, fun a n c h => nomatch h⟩) hf⟩, h.ms, h.us, h.ml, h.ul⟩
def S7 (g4 g7 : Nat) (xm xd : Int) (xh xa yn yt : ByteArray) (yA : Option Addr) (yl yc : Nat) (w : World) : Prop := w.cell? ⟨g4, 0, none⟩ = some (.int .i64 xm) ∧ w.cell? ⟨g4, 1, none⟩ = some (.int .i64 xd) ∧ w.cell? ⟨g4, 2, none⟩ = some (.string xh) ∧ w.cell? ⟨g4, 3, none⟩ = some (.string xa) ∧ w.cell? ⟨g7, 0, none⟩ = some (.string yn) ∧ w.cell? ⟨g7, 1, none⟩ = some (.string yt) ∧ w.cell? ⟨g7, 2, none⟩ = some (.slice yA yl yc)
theorem s7 {w : World} {g4 g7 e e' : Nat} {xm xd : Int} {xh xa yn yt : ByteArray} {yA : Option Addr} {yl yc : Nat} (h : Blk w g4 e [.int .i64 xm, .int .i64 xd, .string xh, .string xa]) (k : Blk w g7 e' [.string yn, .string yt, .slice yA yl yc]) : S7 g4 g7 xm xd xh xa yn yt yA yl yc w :=
  ⟨h.cell 0, h.cell 1, h.cell 2, h.cell 3, k.cell 0, k.cell 1, k.cell 2⟩
theorem law_checks (A B : Option Addr) (c d : Nat) (M : List Dty) (U : List Ump) (w : World) (hM : Rd dtE 4 w w.heap.size A M) (hms : ∀ x ∈ M, DtS x) (hmc : M.length ≤ c) (hcm : c ≤ 9223372036854775807) (hU : Rd umE 3 w w.heap.size B U) (hus : ∀ y ∈ U, RawU w y) (hud : U.length ≤ d) (hdm : d ≤ 9223372036854775807) :
    Calls Try.prog 3 #[.agg #[.slice A M.length c, .slice B U.length d]] w fun e w' => e = .returned (.bool true) ∧ Below w.heap.size w w' := by
  obtain ⟨M', hM'⟩ : ∃ L, M.take 4 = L := ⟨_, rfl⟩
  obtain ⟨U', hU'⟩ : ∃ L, fewU U = L := ⟨_, rfl⟩
  have HF := Lib.hid (show ∀ w1, Below w.heap.size w w1 → Calls Try.prog 11 #[.agg #[.slice A M.length c, .slice B U.length d]] w1 fun e w' => (∃ B' d', e = .returned (.agg (tsE A M'.length c B' U'.length d').toArray) ∧ TaskR w' A B' M' U') ∧ Below w1.heap.size w1 w' from fun w1 hb => by
    have h := few_p A B c d M U w1 (hM.to hb) hms hmc hcm (hU.to hb) (fun y hy => (hus y hy).to hb) hud hdm
    rw [hM', hU'] at h
    exact h)
  obtain ⟨r, hr⟩ : ∃ r, ckA M' U' = r := ⟨_, rfl⟩
  have HCK := Lib.hid hr
  obtain ⟨n, hn⟩ : ∃ n, M.length = n := ⟨_, rfl⟩
  obtain ⟨m, hm⟩ : ∃ m, U.length = m := ⟨_, rfl⟩
  rw [hn, hm] at HF
  rw [hn, hm]
  clear hM hms hmc hcm hU hus hud hdm hM' hU' hr hn hm
  go_enter Try.func3, Try.ntmps3
  go_wp2_with fail
  refine (awake_p _).mono ?_
  rintro e w1 ⟨rfl, hb1⟩
  have hbx := (Blk.new w 25 [.slice A n c, .slice B m d]).to hb1
  have hb2 := cur_step0 hb1
  have c0 : w1.cell? ⟨w.heap.size, 0, none⟩ = some (.slice A n c) := hbx.cell 0
  have c1 : w1.cell? ⟨w.heap.size, 1, none⟩ = some (.slice B m d) := hbx.cell 1
  have HBX := Lib.hid hbx
  have HB := Lib.hid hb2
  clear hbx hb2 hb1
  go_wp2_with (go_at_call 11; refine (HF.out _ HB.out).mono ?_; rintro e w2 ⟨⟨B', d', rfl, ht⟩, hb2⟩; have HT := Lib.hid ht; clear ht; have hx2 := HBX.out.to hb2; have d0 : w2.cell? ⟨w.heap.size, 0, none⟩ = some (.slice A n c) := hx2.cell 0; have d1 : w2.cell? ⟨w.heap.size, 1, none⟩ = some (.slice B m d) := hx2.cell 1; have f0 := hx2.frozen 0; have f1 := hx2.frozen 1; unfold tsE)
  have HX3 := Lib.hid (show Blk ((w2.setCell ⟨w.heap.size, 0, none⟩ (.slice A M'.length c)).setCell ⟨w.heap.size, 1, none⟩ (.slice B' U'.length d')) w.heap.size 25 [.slice A M'.length c, .slice B' U'.length d'] from (hx2.set 0 (.slice A M'.length c)).set 1 (.slice B' U'.length d'))
  have HB3 := Lib.hid (below_set (below_set (cur_step1 HB.out hb2) (Nat.le_refl _) 0 (.slice A M'.length c)) (Nat.le_refl _) 1 (.slice B' U'.length d'))
  have hT3 : TaskR ((w2.setCell ⟨w.heap.size, 0, none⟩ (.slice A M'.length c)).setCell ⟨w.heap.size, 1, none⟩ (.slice B' U'.length d')) A B' M' U' := HT.out.box hx2 (fun j u hu => by match j, hu with | 0, hu => exact ⟨_, _, _, (Option.some.inj hu).symm⟩ | 1, hu => exact ⟨_, _, _, (Option.some.inj hu).symm⟩ | j + 2, hu => simp at hu) ((Far.cell w2 w.heap.size 0 (.slice A M'.length c)).trans (Far.cell _ w.heap.size 1 (.slice B' U'.length d')) (fun x hx => Or.inl hx))
  have HT3 := Lib.hid hT3
  generalize (w2.setCell ⟨w.heap.size, 0, none⟩ (.slice A M'.length c)).setCell ⟨w.heap.size, 1, none⟩ (.slice B' U'.length d') = w3 at HX3 HB3 HT3 hT3 ⊢
  have hml := HT3.out.ml
  have hul := HT3.out.ul
  clear hT3 HT HB HBX HF hx2 d0 d1 f0 f1 c0 c1 hb2
  clear w1
  go_loopw [14] (fun iv wr => ∃ k : Nat, k ≤ M'.length ∧ iv = .int .i64 k ∧ Below w3.heap.size w3 wr) (fun i _ => M'.length - (intOf i).toNat)
  case atStart => exact ⟨0, by omega, rfl, Below.refl _ _⟩
  case round =>
    obtain ⟨k, hk, rfl, hb⟩ := hrel
    rename World => wo
    have HB := Lib.hid hb
    clear hb
    by_cases hkl : k < M'.length
    · obtain ⟨x, hx⟩ : ∃ x, M'[k]? = some x := ⟨_, List.getElem?_eq_getElem hkl⟩
      have HXS := Lib.hid (HT3.out.ms x (List.mem_of_getElem? hx))
      obtain ⟨b5, off5, hB5, hb5l, hcl5⟩ := HT3.out.m.at_ HB.out hx
      obtain ⟨e0, e1, e2, e3⟩ := dt_cells hcl5
      obtain ⟨xm, xd, xh, xa⟩ := x
      dsimp only at e0 e1 e2 e3
      have hb5w : b5 < wo.heap.size := Nat.lt_of_lt_of_le hb5l HB.out.size
      have kx := (HX3.out.to HB.out)
      have kl := kx.lt
      have k1 : wo.cell? ⟨w.heap.size, 1, none⟩ = some (.slice B' U'.length d') := kx.cell 1
      rw [hB5]
      clear hcl5 hx hB5 kx
      go_wp2_with fail
      have h6 := cur_new wo (.cells (dtE ⟨xm, xd, xh, xa⟩).toArray 29)
      have k6 := Blk.new wo 29 (dtE ⟨xm, xd, xh, xa⟩)
      change Code.wp _ _ _ _ (wo.alloc (.cells (dtE ⟨xm, xd, xh, xa⟩).toArray 29))
      generalize wo.alloc (.cells (dtE ⟨xm, xd, xh, xa⟩).toArray 29) = w6 at h6 k6 ⊢
      have HB6 := Lib.hid (cur_step1 HB.out h6)
      have HK6 := Lib.hid k6
      obtain ⟨g4, hg4⟩ : ∃ q, wo.heap.size = q := ⟨_, rfl⟩
      rw [hg4] at HK6 ⊢
      clear h6 k6 e0 e1 e2 e3 k1 kl hb5w HB hg4
      clear wo
      go_loopw [21] (fun iv wr => ∃ j : Nat, j ≤ U'.length ∧ iv = .int .i64 j ∧ Below w6.heap.size w6 wr) (fun i _ => U'.length - (intOf i).toNat)
      case atStart => exact ⟨0, by omega, rfl, Below.refl _ _⟩
      case round =>
        obtain ⟨j, hj, rfl, hb⟩ := hrel
        rename World => wi
        have HB := Lib.hid (cur_step1 HB6.out hb)
        have HK := Lib.hid (HK6.out.to hb)
        have HBI := Lib.hid hb
        clear hb
        by_cases hjl : j < U'.length
        · obtain ⟨y, hy⟩ : ∃ y, U'[j]? = some y := ⟨_, List.getElem?_eq_getElem hjl⟩
          have HYS := Lib.hid (HT3.out.us y (List.mem_of_getElem? hy))
          have HYD := Lib.hid ((HT3.out.u.ds y (List.mem_of_getElem? hy)).to HB.out)
          obtain ⟨b7, off7, hB7, hb7l, hcl7⟩ := HT3.out.u.rd.at_ HB.out hy
          obtain ⟨e0, e1, e2⟩ := um_cells hcl7
          obtain ⟨yn, yt, ys, yA, yc⟩ := y
          dsimp only at e0 e1 e2
          have hb7w : b7 < wi.heap.size := Nat.lt_of_lt_of_le hb7l HB.out.size
          obtain ⟨v, hv⟩ : ∃ v, mayB ⟨xm, xd, xh, xa⟩ ⟨yn, yt, ys, yA, yc⟩ = v := ⟨_, rfl⟩
          have HV := Lib.hid hv
          obtain ⟨yl, hyl⟩ : ∃ q, ys.length = q := ⟨_, rfl⟩
          have HYL := Lib.hid (show yl ≤ 1000000 by rw [← hyl]; exact HYS.out.2.2)
          rw [hyl] at e2
          have HP := Lib.hid (fun w' (h : Below wi.heap.size wi w') => may_p ⟨xm, xd, xh, xa⟩ ⟨yn, yt, ys, yA, yc⟩ v w' HYS.out.2.2 (HYD.out.to h) hv)
          have HR := Lib.hid (fun w' (h : Below wi.heap.size wi w') => may_r ⟨xm, xd, xh, xa⟩ ⟨yn, yt, ys, yA, yc⟩ v w' HYS.out.2.2 (HYD.out.to h) hv)
          simp only [dtE, umE, hyl] at HP HR
          rw [hB7]
          clear hcl7 hy hB7 HYD HYS hv hyl
          go_upto_region 10 with (fail)
          have h7 := cur_new wi (.cells #[.string yn, .string yt, .slice yA yl yc] 32)
          have k7 := Blk.new wi 32 [.string yn, .string yt, .slice yA yl yc]
          change Code.wp _ _ _ _ (wi.alloc (.cells #[.string yn, .string yt, .slice yA yl yc] 32))
          have HK7 := Lib.hid (show Blk (wi.alloc (.cells #[.string yn, .string yt, .slice yA yl yc] 32)) g4 29 [.int .i64 xm, .int .i64 xd, .string xh, .string xa] from HK.out.to h7)
          generalize wi.alloc (.cells #[.string yn, .string yt, .slice yA yl yc] 32) = w7 at h7 k7 HK7 ⊢
          have HB7 := Lib.hid h7
          have HBT := Lib.hid (cur_step1 HBI.out h7)
          have HL7 := Lib.hid k7
          obtain ⟨g7, hg7⟩ : ∃ q, wi.heap.size = q := ⟨_, rfl⟩
          rw [hg7] at HL7 ⊢
          obtain ⟨d0, d1, d2, d3, d4, d5, d6⟩ := s7 HK7.out HL7.out
          have l4 := HK7.out.lt
          have l7 := HL7.out.lt
          clear h7 k7 e0 e1 e2 hb7w hg7 HK
          go_region_held3 (fun w' => w'.cell? ⟨g4, 0, none⟩ = some (.int .i64 xm) ∧ w'.cell? ⟨g4, 1, none⟩ = some (.int .i64 xd) ∧ w'.cell? ⟨g4, 2, none⟩ = some (.string xh) ∧ w'.cell? ⟨g4, 3, none⟩ = some (.string xa) ∧ w'.cell? ⟨g7, 0, none⟩ = some (.string yn) ∧ w'.cell? ⟨g7, 1, none⟩ = some (.string yt) ∧ w'.cell? ⟨g7, 2, none⟩ = some (.slice yA yl yc))
            (first
              | (go_keep; done)
              | exact s7 HK8.out HL8.out
              | exact s7 HK9.out HL9.out)
            ((first
              | (go_at_call 12; refine (HP.out _ HB7.out.drew).mono ?_; rintro e w8 ⟨rfl, hb8⟩; have HB8 := Lib.hid (cur_step1 HB7.out.drew hb8); have HBT8 := Lib.hid (cur_step1 HBT.out.drew hb8); have HK8 := Lib.hid (Blk.to (w := w7.drew) HK7.out hb8); have HL8 := Lib.hid (Blk.to (w := w7.drew) HL7.out hb8); clear hb8)
              | (go_at_call 13; refine (HR.out w8 HB8.out).mono ?_; rintro e w9 ⟨rfl, hb9⟩; have HB9 := Lib.hid (cur_step1 HBT8.out hb9); have HK9 := Lib.hid (HK8.out.to hb9); have HL9 := Lib.hid (HL8.out.to hb9); clear hb9)))
          go_wp2_with fail
          exact ⟨⟨j + 1, by omega, by simp, HB9.out⟩, by simp [intOf]; omega⟩
        · clear HBI HK
          go_wp2_with fail
          exact ⟨⟨k + 1, by omega, by simp, HB.out⟩, by simp [intOf]; omega⟩
    · have HX := Lib.hid (HX3.out.to HB.out)
      have HT := Lib.hid (HT3.out.to HB.out)
      have HBW := Lib.hid (cur_step1 HB3.out HB.out)
      have c0 : wo.cell? ⟨w.heap.size, 0, none⟩ = some (.slice A M'.length c) := HX.out.cell 0
      have c1 : wo.cell? ⟨w.heap.size, 1, none⟩ = some (.slice B' U'.length d') := HX.out.cell 1
      have hlt := HX.out.lt
      clear HB HX3 HT3 HB3
      go_wp2_with fail
      go_region_held3 (fun w' => w'.cell? ⟨w.heap.size, 0, none⟩ = some (.slice A M'.length c) ∧ w'.cell? ⟨w.heap.size, 1, none⟩ = some (.slice B' U'.length d'))
        (first
          | (go_keep; done)
          | exact ⟨HX4.out.cell 0, HX4.out.cell 1⟩
          | exact ⟨HX5.out.cell 0, HX5.out.cell 1⟩)
        ((first
          | (go_at_call 14; refine (check_p A B' c d' M' U' r wo.drew (HT.out.to (Below.refl _ _).drew) HCK.out).mono ?_; rintro e w4 ⟨rfl, hb4⟩; have HB4 := Lib.hid (cur_step1 HBW.out.drew hb4); have HX4 := Lib.hid (Blk.to (w := wo.drew) HX.out hb4); have HT4 := Lib.hid ((HT.out.to (Below.refl _ _).drew).to hb4); clear hb4)
          | (go_at_call 15; refine (check_r A B' c d' M' U' r w4 HT4.out HCK.out).mono ?_; rintro e w5 ⟨rfl, hb5⟩; have HB5 := Lib.hid (cur_step1 HB4.out hb5); have HX5 := Lib.hid (HX4.out.to hb5); clear hb5)))
      go_wp2_with fail
      go_ret
      exact ⟨rfl, HB5.out⟩
end Go.Proofs.Ytckbhdokfkabfaa
