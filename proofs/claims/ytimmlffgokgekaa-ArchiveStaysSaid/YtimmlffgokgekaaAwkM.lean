/-
  Chapter 58: the chapter's example.
-/
import Derived.Test.YtimmlffgokgekaaAwk58
import Derived.Test.YtimmlffgokgekaaMrg
set_option linter.unusedSimpArgs false
set_option linter.unusedVariables false
namespace Go.Proofs.Ytimmlffgokgekaa
open Go.RowKit
set_option maxRecDepth 100000
set_option maxHeartbeats 20000000
theorem rd_blk {α : Type} {enc : α → List Value} {size : Nat} (hl : ∀ x, (enc x).length = size) {w : World} {b e : Nat} {l : List α} (h : Blk w b e (l.flatMap enc)) : Rd enc size w w.heap.size (some ⟨b, 0, none⟩) l := by
  intro k x hx
  exact ⟨b, 0, rfl, h.lt, fun j v hv => by rw [show 0 + k * size + j = k * size + j by omega, h.cell]; exact flat_at hl l k x hx j v hv⟩
theorem awake_p (w : World) : Calls Try.prog 8 #[] w fun e' w' => e' = .returned (.bool true) ∧ Below w.heap.size w w' := by
  go_enter Try.func8, Try.ntmps8
  go_wp2_with (fail)
  refine (stop_p w).mono ?_
  rintro e w1 ⟨rfl, hb1⟩
  have HB1 := Lib.hid (cur_step1 (Below.refl _ _) hb1)
  clear hb1
  go_wp2_with (fail)
  refine (one_p 1000 stopE w1).mono ?_
  rintro e w2 ⟨rfl, hb2⟩
  have HB2 := Lib.hid (cur_step1 HB1.out hb2)
  clear hb2
  go_wp2_with (fail)
  refine (stop_p w2).mono ?_
  rintro e w3 ⟨rfl, hb3⟩
  have HB3 := Lib.hid (cur_step1 HB2.out hb3)
  clear hb3
  go_wp2_with (fail)
  refine (one_p 2000 stopE w3).mono ?_
  rintro e w4 ⟨rfl, hb4⟩
  have HB4 := Lib.hid (cur_step1 HB3.out hb4)
  clear hb4
  obtain ⟨w5, hw5⟩ : ∃ y, w4.alloc (.cells (([⟨1000, stopE, annS⟩, ⟨2000, stopE, annS⟩] : List Ent).flatMap entE).toArray 39) = y := ⟨_, rfl⟩
  have hb5 : Below w4.heap.size w4 w5 := by rw [← hw5]; exact cur_new _ _
  have RB5 := Lib.hid (show Rd entE 21 w5 w5.heap.size (some ⟨w4.heap.size, 0, none⟩) ([⟨1000, stopE, annS⟩, ⟨2000, stopE, annS⟩] : List Ent) from rd_blk entE_len (show Blk w5 w4.heap.size 39 (([⟨1000, stopE, annS⟩, ⟨2000, stopE, annS⟩] : List Ent).flatMap entE) by rw [← hw5]; exact Blk.new _ _ _))
  have HB5 := Lib.hid (cur_step1 HB4.out hb5)
  have SW5 := Lib.hid hw5
  clear hw5 hb5
  go_wp2_with (refine wpList_buildE Try.enElem rfl 2 _ rfl ([⟨1000, stopE, annS⟩, ⟨2000, stopE, annS⟩] : List Ent) rfl (by decide) (by decide) (by rfl) ?_; rw [SW5.out])
  refine (stop_p w5).mono ?_
  rintro e w6 ⟨rfl, hb6⟩
  have HB6 := Lib.hid (cur_step1 HB5.out hb6)
  have RB6 := Lib.hid (RB5.out.to hb6)
  clear hb6
  go_wp2_with (fail)
  refine (one_p 1000 stopE w6).mono ?_
  rintro e w7 ⟨rfl, hb7⟩
  have HB7 := Lib.hid (cur_step1 HB6.out hb7)
  have RB7 := Lib.hid (RB6.out.to hb7)
  clear hb7
  go_wp2_with (fail)
  refine (stop_p w7).mono ?_
  rintro e w8 ⟨rfl, hb8⟩
  have HB8 := Lib.hid (cur_step1 HB7.out hb8)
  have RB8 := Lib.hid (RB7.out.to hb8)
  clear hb8
  go_wp2_with (fail)
  refine (one_p 1500 stopE w8).mono ?_
  rintro e w9 ⟨rfl, hb9⟩
  have HB9 := Lib.hid (cur_step1 HB8.out hb9)
  have RB9 := Lib.hid (RB8.out.to hb9)
  clear hb9
  obtain ⟨w10, hw10⟩ : ∃ y, w9.alloc (.cells (([⟨1000, stopE, annS⟩, ⟨1500, stopE, annS⟩] : List Ent).flatMap entE).toArray 39) = y := ⟨_, rfl⟩
  have hb10 : Below w9.heap.size w9 w10 := by rw [← hw10]; exact cur_new _ _
  have RL10 := Lib.hid (show Rd entE 21 w10 w10.heap.size (some ⟨w9.heap.size, 0, none⟩) ([⟨1000, stopE, annS⟩, ⟨1500, stopE, annS⟩] : List Ent) from rd_blk entE_len (show Blk w10 w9.heap.size 39 (([⟨1000, stopE, annS⟩, ⟨1500, stopE, annS⟩] : List Ent).flatMap entE) by rw [← hw10]; exact Blk.new _ _ _))
  have HB10 := Lib.hid (cur_step1 HB9.out hb10)
  have SW10 := Lib.hid hw10
  have RB10 := Lib.hid (RB9.out.to hb10)
  clear hw10 hb10
  go_wp2_with (refine wpList_buildE Try.enElem rfl 2 _ rfl ([⟨1000, stopE, annS⟩, ⟨1500, stopE, annS⟩] : List Ent) rfl (by decide) (by decide) (by rfl) ?_; rw [SW10.out])
  refine (note_p w10).mono ?_
  rintro e w11 ⟨rfl, hb11⟩
  have HB11 := Lib.hid (cur_step1 HB10.out hb11)
  have RB11 := Lib.hid (RB10.out.to hb11)
  have RL11 := Lib.hid (RL10.out.to hb11)
  clear hb11
  go_wp2_with (fail)
  refine (one_p 1000 noteE w11).mono ?_
  rintro e w12 ⟨rfl, hb12⟩
  have HB12 := Lib.hid (cur_step1 HB11.out hb12)
  have RB12 := Lib.hid (RB11.out.to hb12)
  have RL12 := Lib.hid (RL11.out.to hb12)
  clear hb12
  go_wp2_with (fail)
  refine (note_p w12).mono ?_
  rintro e w13 ⟨rfl, hb13⟩
  have HB13 := Lib.hid (cur_step1 HB12.out hb13)
  have RB13 := Lib.hid (RB12.out.to hb13)
  have RL13 := Lib.hid (RL12.out.to hb13)
  clear hb13
  go_wp2_with (fail)
  refine (one_p 1500 noteE w13).mono ?_
  rintro e w14 ⟨rfl, hb14⟩
  have HB14 := Lib.hid (cur_step1 HB13.out hb14)
  have RB14 := Lib.hid (RB13.out.to hb14)
  have RL14 := Lib.hid (RL13.out.to hb14)
  clear hb14
  go_wp2_with (fail)
  refine (stop_p w14).mono ?_
  rintro e w15 ⟨rfl, hb15⟩
  have HB15 := Lib.hid (cur_step1 HB14.out hb15)
  have RB15 := Lib.hid (RB14.out.to hb15)
  have RL15 := Lib.hid (RL14.out.to hb15)
  clear hb15
  go_wp2_with (fail)
  refine (one_p 2000 stopE w15).mono ?_
  rintro e w16 ⟨rfl, hb16⟩
  have HB16 := Lib.hid (cur_step1 HB15.out hb16)
  have RB16 := Lib.hid (RB15.out.to hb16)
  have RL16 := Lib.hid (RL15.out.to hb16)
  clear hb16
  obtain ⟨w17, hw17⟩ : ∃ y, w16.alloc (.cells (([⟨1000, noteE, annS⟩, ⟨1500, noteE, annS⟩, ⟨2000, stopE, annS⟩] : List Ent).flatMap entE).toArray 39) = y := ⟨_, rfl⟩
  have hb17 : Below w16.heap.size w16 w17 := by rw [← hw17]; exact cur_new _ _
  have RR17 := Lib.hid (show Rd entE 21 w17 w17.heap.size (some ⟨w16.heap.size, 0, none⟩) ([⟨1000, noteE, annS⟩, ⟨1500, noteE, annS⟩, ⟨2000, stopE, annS⟩] : List Ent) from rd_blk entE_len (show Blk w17 w16.heap.size 39 (([⟨1000, noteE, annS⟩, ⟨1500, noteE, annS⟩, ⟨2000, stopE, annS⟩] : List Ent).flatMap entE) by rw [← hw17]; exact Blk.new _ _ _))
  have HB17 := Lib.hid (cur_step1 HB16.out hb17)
  have SW17 := Lib.hid hw17
  have RB17 := Lib.hid (RB16.out.to hb17)
  have RL17 := Lib.hid (RL16.out.to hb17)
  clear hw17 hb17
  go_wp2_with (refine wpList_buildE Try.enElem rfl 3 _ rfl ([⟨1000, noteE, annS⟩, ⟨1500, noteE, annS⟩, ⟨2000, stopE, annS⟩] : List Ent) rfl (by decide) (by decide) (by rfl) ?_; rw [SW17.out])
  have HZ := Lib.hid (show flE [⟨some ⟨w4.heap.size, 0, none⟩, 2, ([⟨1000, stopE, annS⟩, ⟨2000, stopE, annS⟩] : List Ent)⟩, ⟨some ⟨w9.heap.size, 0, none⟩, 2, ([⟨1000, stopE, annS⟩, ⟨1500, stopE, annS⟩] : List Ent)⟩, ⟨some ⟨w16.heap.size, 0, none⟩, 3, ([⟨1000, noteE, annS⟩, ⟨1500, noteE, annS⟩, ⟨2000, stopE, annS⟩] : List Ent)⟩] = 0 from flE_zero (fun g hg => by
    simp only [List.mem_cons, List.not_mem_nil, or_false] at hg
    rcases hg with rfl | rfl | rfl
    · exact exB_is
    · exact exL_is
    · exact exR_is))
  refine merge_e [⟨some ⟨w4.heap.size, 0, none⟩, 2, ([⟨1000, stopE, annS⟩, ⟨2000, stopE, annS⟩] : List Ent)⟩, ⟨some ⟨w9.heap.size, 0, none⟩, 2, ([⟨1000, stopE, annS⟩, ⟨1500, stopE, annS⟩] : List Ent)⟩, ⟨some ⟨w16.heap.size, 0, none⟩, 3, ([⟨1000, noteE, annS⟩, ⟨1500, noteE, annS⟩, ⟨2000, stopE, annS⟩] : List Ent)⟩] _ _ _ 2 2 3 ([⟨1000, stopE, annS⟩, ⟨2000, stopE, annS⟩] : List Ent) ([⟨1000, stopE, annS⟩, ⟨1500, stopE, annS⟩] : List Ent) ([⟨1000, noteE, annS⟩, ⟨1500, noteE, annS⟩, ⟨2000, stopE, annS⟩] : List Ent) rfl w17 (show (7 : Nat) ≤ 400 by decide) ?sc ?rd _ (fun h => absurd HZ.out h) ?good
  case sc =>
    intro f hf x hx
    simp only [List.mem_cons, List.not_mem_nil, or_false] at hf
    rcases hf with rfl | rfl | rfl <;> simp only [List.mem_cons, List.not_mem_nil, or_false] at hx
    · rcases hx with rfl | rfl <;> decide
    · rcases hx with rfl | rfl <;> decide
    · rcases hx with rfl | rfl | rfl <;> decide
  case rd =>
    intro f hf
    simp only [List.mem_cons, List.not_mem_nil, or_false] at hf
    rcases hf with rfl | rfl | rfl
    · exact RB17.out
    · exact RL17.out
    · exact RR17.out
  case good =>
    intro _ v1 v2 wm ho1 ho2 hbm
    rw [exO_is] at ho1
    rw [exC_is] at ho2
    obtain ⟨Ao, co, rfl, hro, _⟩ := OwnL.rd entE_len ho1
    obtain ⟨Ac, cc, rfl, hrc, _⟩ := OwnL.rd inE_len ho2
    have HRO0 := Lib.hid hro
    have HRC0 := Lib.hid hrc
    have HBm := Lib.hid (cur_step1 HB17.out hbm)
    clear ho1 ho2 hro hrc hbm
    go_wp2_with (fail)
    refine (stop_p wm).mono ?_
    rintro e w18 ⟨rfl, hb18⟩
    have HB18 := Lib.hid (cur_step1 HBm.out hb18)
    have HRO18 := Lib.hid (HRO0.out.to hb18)
    have HRC18 := Lib.hid (HRC0.out.to hb18)
    clear hb18
    go_wp2_with (fail)
    refine (chke_p stopE w18).mono ?_
    rintro e w19 ⟨rfl, hb19⟩
    have HB19 := Lib.hid (cur_step1 HB18.out hb19)
    have HRO19 := Lib.hid (HRO18.out.to hb19)
    have HRC19 := Lib.hid (HRC18.out.to hb19)
    clear hb19
    rw [chk_stop]
    go_wp2_with (fail)
    refine (note_p w19).mono ?_
    rintro e w20 ⟨rfl, hb20⟩
    have HB20 := Lib.hid (cur_step1 HB19.out hb20)
    have HRO20 := Lib.hid (HRO19.out.to hb20)
    have HRC20 := Lib.hid (HRC19.out.to hb20)
    clear hb20
    go_wp2_with (fail)
    refine (chke_p noteE w20).mono ?_
    rintro e w21 ⟨rfl, hb21⟩
    have HB21 := Lib.hid (cur_step1 HB20.out hb21)
    have HRO21 := Lib.hid (HRO20.out.to hb21)
    have HRC21 := Lib.hid (HRC20.out.to hb21)
    clear hb21
    rw [chk_note]
    go_wp2_with (fail)
    refine (note_p w21).mono ?_
    rintro e w22 ⟨rfl, hb22⟩
    have HB22 := Lib.hid (cur_step1 HB21.out hb22)
    have HRO22 := Lib.hid (HRO21.out.to hb22)
    have HRC22 := Lib.hid (HRC21.out.to hb22)
    clear hb22
    go_wp2_with (fail)
    refine (one_p 1000 noteE w22).mono ?_
    rintro e w23 ⟨rfl, hb23⟩
    have HB23 := Lib.hid (cur_step1 HB22.out hb23)
    have HRO23 := Lib.hid (HRO22.out.to hb23)
    have HRC23 := Lib.hid (HRC22.out.to hb23)
    clear hb23
    obtain ⟨w24, hw24⟩ : ∃ y, w23.alloc (.cells (([⟨1000, noteE, annS⟩] : List Ent).flatMap entE).toArray 39) = y := ⟨_, rfl⟩
    have hb24 : Below w23.heap.size w23 w24 := by rw [← hw24]; exact cur_new _ _
    have RX24 := Lib.hid (show Rd entE 21 w24 w24.heap.size (some ⟨w23.heap.size, 0, none⟩) ([⟨1000, noteE, annS⟩] : List Ent) from rd_blk entE_len (show Blk w24 w23.heap.size 39 (([⟨1000, noteE, annS⟩] : List Ent).flatMap entE) by rw [← hw24]; exact Blk.new _ _ _))
    have HB24 := Lib.hid (cur_step1 HB23.out hb24)
    have SW24 := Lib.hid hw24
    have HRO24 := Lib.hid (HRO23.out.to hb24)
    have HRC24 := Lib.hid (HRC23.out.to hb24)
    clear hw24 hb24
    go_wp2_with (fail)
    change Calls _ _ _ (w23.alloc (.cells (([⟨1000, noteE, annS⟩] : List Ent).flatMap entE).toArray 39)) _
    rw [SW24.out]
    refine (eq_ent Ao (some ⟨w23.heap.size, 0, none⟩) co 1 [⟨1000, noteE, annS⟩] [⟨1000, noteE, annS⟩] w24 (by decide) (by decide) HRO24.out RX24.out).mono ?_
    rintro e w25 ⟨rfl, hb25⟩
    have HB25 := Lib.hid (cur_step1 HB24.out hb25)
    have HRO25 := Lib.hid (HRO24.out.to hb25)
    have HRC25 := Lib.hid (HRC24.out.to hb25)
    have RX25 := Lib.hid (RX24.out.to hb25)
    clear hb25
    rw [decide_eq_true rfl]
    obtain ⟨w26, hw26⟩ : ∃ y, w25.alloc (.cells (([1500] : List Int).flatMap inE).toArray 42) = y := ⟨_, rfl⟩
    have hb26 : Below w25.heap.size w25 w26 := by rw [← hw26]; exact cur_new _ _
    have RY := Lib.hid (show Rd inE 1 w26 w26.heap.size (some ⟨w25.heap.size, 0, none⟩) [1500] from rd_blk inE_len (show Blk w26 w25.heap.size 42 (([1500] : List Int).flatMap inE) by rw [← hw26]; exact Blk.new _ _ _))
    have HB26 := Lib.hid (cur_step1 HB25.out hb26)
    have SW26 := Lib.hid hw26
    have HRC26 := Lib.hid (HRC25.out.to hb26)
    clear hw26 hb26
    go_wp2_with (fail)
    change Calls _ _ _ (w25.alloc (.cells (([1500] : List Int).flatMap inE).toArray 42)) _
    rw [SW26.out]
    refine (eq_cl Ac (some ⟨w25.heap.size, 0, none⟩) cc 1 [1500] [1500] w26 (by decide) (by decide) HRC26.out RY.out).mono ?_
    rintro e wz ⟨rfl, hbz⟩
    rw [decide_eq_true rfl]
    have HBz := Lib.hid (cur_step1 HB26.out hbz)
    clear hbz
    go_wp2_with (fail)
    go_ret
    exact ⟨rfl, HBz.out⟩
end Go.Proofs.Ytimmlffgokgekaa
