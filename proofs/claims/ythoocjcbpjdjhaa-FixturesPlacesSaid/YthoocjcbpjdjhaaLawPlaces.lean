/-
  Chapter 49: the law FixturesPlaces: the walk.
-/
import Derived.Test.YthoocjcbpjdjhaaLawDays
import Derived.Test.YthoocjcbpjdjhaaChkR49
import Derived.RegionTactic
import Derived.BigRegion
namespace Go.Proofs.Ythoocjcbpjdjhaa
open Go.RowKit

theorem neqPf (r h a d g : Int) (w : World) : (binOp .neq 39 (.agg #[.int .i64 r, .int .i64 h, .int .i64 a, .int .i64 d, .int .i64 g]) (.agg #[.int .i64 r, .int .i64 h, .int .i64 a, .int .i64 d, .int .i64 g])).run Try.prog w = .ok (.bool false) w := by
  rw [run_neq_struct, run_equalIn_struct w 9999 39 _ _ (by kernel_rfl) (by kernel_rfl)]
  have h37 : Try.prog.stoodInHeld 37 = false := by kernel_rfl
  simp [go_sem, Try.underlying39, Try.underlying37, h37]
theorem guardPf (op : BinOp) (x y : Operand) (xs ys : Array Value) (w : World) : (eqGuard op 39 x y (.agg xs) (.agg ys)).run Try.prog w = .ok () w := run_eqGuard_agg w op _ x y xs ys (by kernel_rfl)

theorem rd_store {w : World} {B b i c : Nat} {l : List Pf} {p q : Pf} {v : Value} (h : Rd pfE 5 w B (some ⟨b, 0, none⟩) l) (hp : l[i]? = some p) (hc : c < 5) (hq : ∀ j u, (pfE q)[j]? = some u → (j = c ∧ u = v) ∨ (j ≠ c ∧ (pfE p)[j]? = some u)) : Rd pfE 5 (w.setCell ⟨b, i * 5 + c, none⟩ v) B (some ⟨b, 0, none⟩) (l.set i q) := by
  intro k x hx
  rw [List.getElem?_set] at hx
  split at hx
  · rename_i hk
    subst hk
    split at hx
    · injection hx with hx
      subst hx
      obtain ⟨b', off', e, hb, hcell⟩ := h i p hp
      injection e with e
      injection e with e1 e2 _
      subst e1 e2
      refine ⟨b, 0, rfl, hb, fun j u hu => ?_⟩
      have hj : j < 5 := (List.getElem?_eq_some_iff.1 hu).1
      rcases hq j u hu with ⟨rfl, rfl⟩ | ⟨hne, hu2⟩
      · obtain ⟨u0, hu0⟩ : ∃ u0, (pfE p)[j]? = some u0 := ⟨_, List.getElem?_eq_getElem (by simpa [pfE] using hj)⟩
        have h0 := hcell j u0 hu0
        rw [Nat.zero_add] at h0 ⊢
        exact World.cell?_setCell_same w _ _ h0
      · rw [World.cell?_setCell_other w _ _ v (by intro e; injection e with _ e _; omega)]
        exact hcell j u hu2
    · cases hx
  · rename_i hk
    obtain ⟨b', off', e, hb, hcell⟩ := h k x hx
    injection e with e
    injection e with e1 e2 _
    subst e1 e2
    refine ⟨b, 0, rfl, hb, fun j u hu => ?_⟩
    have hj : j < 5 := (List.getElem?_eq_some_iff.1 hu).1
    rw [World.cell?_setCell_other w _ _ v (by intro e; injection e with _ e _; omega)]
    exact hcell j u hu

theorem place_dd {l : List Fx} {x y : Int} {gr : List Int} {out : List Pf} (h : placeAll l x y gr = (out, 0)) : ∀ p ∈ out, 0 ≤ p.d ∧ p.d ≤ 109572 ∧ 0 ≤ p.g ∧ p.g < 20 := by
  intro p hp
  obtain ⟨k, hk, he⟩ := List.getElem_of_mem hp
  obtain ⟨_, _, d3⟩ := days_law h
  have hf := (d3 k p (by rw [List.getElem?_eq_getElem hk, he])).2
  have hs : seasonL l.length x y gr = 0 := by
    unfold placeAll at h
    split at h
    · assumption
    · rename_i h8; injection h with _ h9
  have h0 := season_ok hs
  have hkn := known_ok hf.known
  have hany : gr.any badGround = false := by
    unfold seasonL at hs
    split at hs
    · omega
    · split at hs
      · omega
      · split at hs
        · omega
        · rename_i h9; simpa using h9
  have hg : badGround p.g = false := by
    rw [hf.ground]
    unfold grAt
    have hlt : p.f.h.toNat < gr.length := by omega
    have hm : gr.getD p.f.h.toNat 0 ∈ gr := by rw [List.getD_eq_getElem?_getD, List.getElem?_eq_getElem hlt]; exact List.getElem_mem hlt
    cases h9 : badGround (gr.getD p.f.h.toNat 0) with
    | false => rfl
    | true => have := List.any_eq_true.2 ⟨_, hm, h9⟩; rw [this] at hany; cases hany
  unfold badGround at hg
  simp at hg
  have := hf.lo
  have := hf.hi
  omega

theorem chk_f' (A G : Option Addr) (c gc n : Nat) (l : List Pf) (x y : Int) (gr : List Int) (w : World) (hn : l.length = n) (hl : n ≤ 9223372036854775807) (hlc : n ≤ c) (hgl : gr.length ≤ 9223372036854775807)
    (hr : Rd pfE 5 w w.heap.size A l) (hg : Rd inE 1 w w.heap.size G gr) (hd : ∀ p ∈ l, -1000 ≤ p.d ∧ p.d ≤ 1000000) :
    Calls Try.prog 14 #[.slice A n c, .agg #[.int .i64 x, .int .i64 y, .slice G gr.length gc]] w (ChPost w l x y gr) := by
  subst hn; exact chk_f A G c gc l x y gr w hl hlc hgl hr hg hd
theorem chk_r' (A G : Option Addr) (c gc n : Nat) (l : List Pf) (x y : Int) (gr : List Int) (w : World) (hn : l.length = n) (hl : n ≤ 9223372036854775807) (hlc : n ≤ c) (hgl : gr.length ≤ 9223372036854775807)
    (hr : Rd pfE 5 w w.heap.size A l) (hg : Rd inE 1 w w.heap.size G gr) (hd : ∀ p ∈ l, -1000 ≤ p.d ∧ p.d ≤ 1000000) :
    Calls Try.prog 15 #[.slice A n c, .agg #[.int .i64 x, .int .i64 y, .slice G gr.length gc]] w (ChPost w l x y gr) := by
  subst hn; exact chk_r A G c gc l x y gr w hl hlc hgl hr hg hd
/-- Two cells of an own element stored: the world in which the checks run. -/
theorem two_stored {w w4 w6 : World} {b i : Nat} {A : Option Addr} {out : List Pf} {f : Fx} {d g d' g' : Int} {cs : List (Nat × Nat × Value)} (hA : A = some ⟨b, 0, none⟩) (hK : Keep w w4 cs) (hb : w.heap.size ≤ b) (hcs : ∀ c ∈ cs, c.1 ≠ b) (hr : Rd pfE 5 w4 w4.heap.size A out) (hp : out[i]? = some ⟨f, d, g⟩)
    (hw : Below w4.heap.size ((w4.setCell ⟨b, i * 5 + 3, none⟩ (.int .i64 d')).setCell ⟨b, i * 5 + 4, none⟩ (.int .i64 g')) w6) : Keep w w6 cs ∧ Rd pfE 5 w6 w6.heap.size A (out.set i ⟨f, d', g'⟩) := by
  subst hA
  have h1 := rd_store (c := 3) (q := ⟨f, d', g⟩) (v := .int .i64 d') hr hp (by omega) (by
    intro j u hu
    match j, hu with
    | 0, hu | 1, hu | 2, hu | 4, hu => exact .inr ⟨by omega, hu⟩
    | 3, hu => exact .inl ⟨rfl, by simpa [pfE] using hu.symm⟩
    | n + 5, hu => simp [pfE] at hu)
  have hi : i < out.length := (List.getElem?_eq_some_iff.1 hp).1
  have h2 := rd_store (i := i) (c := 4) (p := ⟨f, d', g⟩) (q := ⟨f, d', g'⟩) (v := .int .i64 g') h1 (by simp [hi]) (by omega) (by
    intro j u hu
    match j, hu with
    | 0, hu | 1, hu | 2, hu | 3, hu => exact .inr ⟨by omega, hu⟩
    | 4, hu => exact .inl ⟨rfl, by simpa [pfE] using hu.symm⟩
    | n + 5, hu => simp [pfE] at hu)
  rw [List.set_set] at h2
  have hk2 : Keep w ((w4.setCell ⟨b, i * 5 + 3, none⟩ (.int .i64 d')).setCell ⟨b, i * 5 + 4, none⟩ (.int .i64 g')) cs := by
    refine ⟨(hK.1.setCell (p := ⟨b, i * 5 + 3, none⟩) hb _).setCell (p := ⟨b, i * 5 + 4, none⟩) hb _, fun c hc => ⟨by simpa using (hK.2 c hc).1, ?_⟩⟩
    rw [World.cell?_setCell_other _ _ _ _ (by intro e; injection e with e _ _; exact hcs c hc e.symm), World.cell?_setCell_other _ _ _ _ (by intro e; injection e with e _ _; exact hcs c hc e.symm)]
    exact (hK.2 c hc).2
  have hw : Below ((w4.setCell ⟨b, i * 5 + 3, none⟩ (.int .i64 d')).setCell ⟨b, i * 5 + 4, none⟩ (.int .i64 g')).heap.size ((w4.setCell ⟨b, i * 5 + 3, none⟩ (.int .i64 d')).setCell ⟨b, i * 5 + 4, none⟩ (.int .i64 g')) w6 := by simpa using hw
  refine ⟨hk2.to hw, ?_⟩
  have h3 : Rd pfE 5 ((w4.setCell ⟨b, i * 5 + 3, none⟩ (.int .i64 d')).setCell ⟨b, i * 5 + 4, none⟩ (.int .i64 g')) ((w4.setCell ⟨b, i * 5 + 3, none⟩ (.int .i64 d')).setCell ⟨b, i * 5 + 4, none⟩ (.int .i64 g')).heap.size (some ⟨b, 0, none⟩) (out.set i ⟨f, d', g'⟩) := by simpa using h2
  exact h3.to hw

set_option maxRecDepth 100000 in
set_option maxHeartbeats 4000000 in
theorem law_places (A G : Option Addr) (c gc : Nat) (l : List Fx) (x y a0 a1 a2 : Int) (gr : List Int) (w : World) (hl : l.length ≤ 9223372036854775807) (hgl : gr.length ≤ 9223372036854775807)
    (hr : Rd fxE 3 w w.heap.size A l) (hg : Rd inE 1 w w.heap.size G gr) :
    Calls Try.prog 4 #[.slice A l.length c, .agg #[.int .i64 x, .int .i64 y, .slice G gr.length gc], .agg #[.int .i64 a0, .int .i64 a1, .int .i64 a2]] w fun e w' => e = .returned (.bool true) ∧ Below w.heap.size w w' := by
  go_enter Try.func4, Try.ntmps4
  go_wp2_with fail
  refine (awake_any _).mono ?_
  rintro e w1 ⟨rfl, hb1⟩
  have K1 : Keep w w1 [(w.heap.size, 0, .int .i64 x), (w.heap.size, 1, .int .i64 y), (w.heap.size, 2, .slice G gr.length gc), (w.heap.size + 1, 0, .int .i64 a0), (w.heap.size + 1, 1, .int .i64 a1), (w.heap.size + 1, 2, .int .i64 a2)] := Keep.to (Keep.start (cur_two w _ _) (by simp; omega)) hb1
  have HK1 := Lib.hid K1
  have s0 := K1.get (b := w.heap.size) (o := 0) (v := .int .i64 x) (by simp)
  have s1 := K1.get (b := w.heap.size) (o := 1) (v := .int .i64 y) (by simp)
  have s2 := K1.get (b := w.heap.size) (o := 2) (v := .slice G gr.length gc) (by simp)
  have hbe := K1.1
  clear hb1 K1
  by_cases h1 : 120 < l.length
  · go_wp2
    go_ret
    exact ⟨rfl, hbe⟩
  by_cases h2 : 50 < gr.length
  · go_wp2
    go_ret
    exact ⟨rfl, hbe⟩
  obtain ⟨out, er, hpl⟩ : ∃ out er, placeAll l x y gr = (out, er) := ⟨_, _, rfl⟩
  have hfine : out.length ≤ 120 ∧ ∀ p ∈ out, 0 ≤ p.d ∧ p.d ≤ 109572 ∧ 0 ≤ p.g ∧ p.g < 20 := by
    by_cases he : er = 0
    · subst he
      obtain ⟨d1, _, _⟩ := days_law hpl
      exact ⟨by omega, place_dd hpl⟩
    · have h9 : (placeAll l x y gr).1 = [] := place_err (by rw [hpl]; exact he)
      rw [hpl] at h9
      simp only [] at h9
      subst h9
      exact ⟨by simp, by simp⟩
  obtain ⟨hol, hdd⟩ := hfine
  have HDD := Lib.hid hdd
  have HPL := Lib.hid hpl
  clear hdd hpl
  go_wp2_with fail
  refine (place_f A G c gc l x y gr w1 hl hgl (hr.to hbe) (hg.to hbe)).mono ?_
  rintro e w2 ⟨v2, rfl, hown2, hb2⟩
  rw [HPL.out] at hown2 ⊢
  simp only [] at hown2 ⊢
  have K2 := HK1.out.to hb2
  have HK2 := Lib.hid K2
  obtain ⟨A2, c2, rfl, hrd2, hbase2⟩ := hown2.rd pfE_len
  clear hbase2
  have HR2 := Lib.hid hrd2
  have t0 := K2.get (b := w.heap.size) (o := 0) (v := .int .i64 x) (by simp)
  have t1 := K2.get (b := w.heap.size) (o := 1) (v := .int .i64 y) (by simp)
  have t2 := K2.get (b := w.heap.size) (o := 2) (v := .slice G gr.length gc) (by simp)
  have hbe2 := K2.1
  clear s0 s1 s2 hown2 hb2 K2 hrd2 hbe
  go_wp2_with fail
  refine (place_r A G c gc l x y gr w2 hl hgl (hr.to hbe2) (hg.to hbe2)).mono ?_
  rintro e w3 ⟨v3, rfl, hown3, hb3⟩
  rw [HPL.out] at hown3 ⊢
  simp only [] at hown3 ⊢
  have HK3 := Lib.hid (HK2.out.to hb3)
  have HR3 := Lib.hid (HR2.out.to hb3)
  have hcap : ∃ A c, v3 = .slice A out.length c ∧ out.length ≤ c := by
    obtain ⟨A2, c2, rfl, _⟩ := hown3.rd pfE_len
    exact ⟨A2, c2, rfl, own_cap hown3⟩
  obtain ⟨A3, c3, rfl, hrd3, hbase3⟩ := hown3.rd pfE_len
  obtain ⟨A9, c9, hv, hc3⟩ := hcap
  injection hv with hv1 _ hv3
  subst hv1 hv3
  have HO3 := Lib.hid hrd3
  have HOWN := Lib.hid hown3
  have HB3 := Lib.hid hbase3
  have hsz3 : w.heap.size + 1 < w2.heap.size := HK2.out.lt (b := w.heap.size + 1) (o := 0) (v := .int .i64 a0) (by simp)
  have e3 : (er != er) = false := by simp
  clear t0 t1 t2 hbe2 hb3 hown3 hrd3 hbase3
  go_wp2
  go_loopw [52] (LeI w3 out.length) (fun i _ => out.length - (intOf i).toNat)
  case atStart => exact ⟨0, Nat.zero_le _, rfl, Below.refl _ _⟩
  case round =>
    obtain ⟨k, hk, rfl, hb4⟩ := hrel
    have K4 := HK3.out.to hb4
    have HB4 := Lib.hid hb4
    by_cases hlt : k < out.length
    · obtain ⟨p, hp⟩ : ∃ p, out[k]? = some p := ⟨_, List.getElem?_eq_getElem hlt⟩
      obtain ⟨b, off, rfl, hbb, c0, c1, c2', c3', c4⟩ := rdPf HR3.out hb4 hp
      obtain ⟨b', off', rfl, hbb', d0, d1, d2', d3', d4⟩ := rdPf HO3.out hb4 hp
      obtain ⟨⟨pr, ph, pa⟩, pd, pg⟩ := p
      simp only [] at c0 c1 c2' c3' c4 d0 d1 d2' d3' d4
      have hn := neqPf pr ph pa pd pg
      have hgd := guardPf
      clear hp K4 hb4
      go_wp2_with fail
      go_quiet (fail)
      go_wp2
      go_roundw
      case rel => exact ⟨k + 1, hlt, by simp, cur_step1 HB4.out (cur_drew _ _)⟩
      case measure => simp [intOf]; omega
    · have q0 := K4.get (b := w.heap.size + 1) (o := 0) (v := .int .i64 a0) (by simp)
      have q1 := K4.get (b := w.heap.size + 1) (o := 1) (v := .int .i64 a1) (by simp)
      have q2 := K4.get (b := w.heap.size + 1) (o := 2) (v := .int .i64 a2) (by simp)
      have s0 := K4.get (b := w.heap.size) (o := 0) (v := .int .i64 x) (by simp)
      have s1 := K4.get (b := w.heap.size) (o := 1) (v := .int .i64 y) (by simp)
      have s2 := K4.get (b := w.heap.size) (o := 2) (v := .slice G gr.length gc) (by simp)
      have HKr := Lib.hid K4
      clear K4
      by_cases hmod : 0 < out.length ∧ 0 ≤ a0
      · obtain ⟨hpos, ha0⟩ := hmod
        obtain ⟨i, hi⟩ : ∃ i : Nat, a0.tmod (out.length : Int) = (i : Int) := ⟨(a0.tmod out.length).toNat, by have := Int.tmod_nonneg (b := (out.length : Int)) ha0; omega⟩
        have hin : i < out.length := by
          have := Int.tmod_lt_of_pos (b := (out.length : Int)) a0 (by omega)
          omega
        obtain ⟨u1, hu1⟩ : ∃ u, a1.tmod 100 = u := ⟨_, rfl⟩
        obtain ⟨u2, hu2⟩ : ∃ u, a2.tmod 3 = u := ⟨_, rfl⟩
        have hub1 : -100 < u1 ∧ u1 < 100 := by rw [← hu1]; exact ⟨by have := Int.lt_tmod_of_pos a1 (show (0 : Int) < 100 by decide); omega, Int.tmod_lt_of_pos a1 (by decide)⟩
        have hub2 : -3 < u2 ∧ u2 < 3 := by rw [← hu2]; exact ⟨by have := Int.lt_tmod_of_pos a2 (show (0 : Int) < 3 by decide); omega, Int.tmod_lt_of_pos a2 (by decide)⟩
        obtain ⟨p, hp⟩ : ∃ p, out[i]? = some p := ⟨_, List.getElem?_eq_getElem hin⟩
        have hpd := HDD.out p (List.mem_of_getElem? hp)
        obtain ⟨b, off, rfl, hbb, d0, d1, d2, d3, d4⟩ := rdPf HO3.out hb4 hp
        obtain ⟨hb2, rfl⟩ := HB3.out b off rfl
        obtain ⟨⟨pr, ph, pa⟩, pd, pg⟩ := p
        simp only [Nat.zero_add] at d0 d1 d2 d3 d4 hpd
        have hown4 := own_below HOWN.out hb4 (Nat.le_refl _)
        have fz3 := hown4.frozenAt (i * 5 + 3)
        have fz4 := (hown4.stored (i * 5 + 3) (.int .i64 (pd + u1))).1.frozenAt (i * 5 + 4)
        have hne1 : b ≠ w.heap.size := by omega
        have hne2 : b ≠ w.heap.size + 1 := by omega
        have HP := Lib.hid hp
        clear hp hb4 hown4
        have d4' : (wr.setCell ⟨b, i * 5 + 3, none⟩ (.int .i64 (pd + u1))).cell? ⟨b, i * 5 + 4, none⟩ = some (.int .i64 pg) := by
          rw [World.cell?_setCell_other wr _ _ _ (by intro e; injection e with _ e _; omega)]; exact d4
        have q2' : (wr.setCell ⟨b, i * 5 + 3, none⟩ (.int .i64 (pd + u1))).cell? ⟨w.heap.size + 1, 2, none⟩ = some (.int .i64 a2) := by
          rw [World.cell?_setCell_other wr _ _ _ (by intro e; injection e with e _ _; omega)]; exact q2
        go_wp2_with fail
        go_region
        go_wp2_with fail
        go_region
        go_wp2_with fail
        obtain ⟨out2, ho2⟩ : ∃ o : List Pf, o = out.set i ⟨⟨pr, ph, pa⟩, pd + u1, pg + u2⟩ := ⟨_, rfl⟩
        have hlen2 : out2.length = out.length := by rw [ho2]; simp
        obtain ⟨w6, hw6⟩ : ∃ W : World, ((wr.setCell ⟨b, i * 5 + 3, none⟩ (.int .i64 (pd + u1))).setCell ⟨b, i * 5 + 4, none⟩ (.int .i64 (pg + u2))).drew.drew = W := ⟨_, rfl⟩
        have hprep := two_stored (f := ⟨pr, ph, pa⟩) (d' := pd + u1) (g' := pg + u2) (w6 := w6) rfl HKr.out (show w.heap.size ≤ b by omega) (by intro c hc; simp at hc; rcases hc with rfl | rfl | rfl | rfl | rfl | rfl <;> simp <;> omega) (HO3.out.to HB4.out) HP.out (by rw [← hw6]; exact (Below.refl _ _).drew.drew)
        rw [hw6]
        rw [← ho2] at hprep
        have HK6 := Lib.hid hprep.1
        have HR6 := Lib.hid hprep.2
        have HD2 := Lib.hid (show ∀ p ∈ out2, -1000 ≤ p.d ∧ p.d ≤ 1000000 by
          intro p hp
          rw [ho2] at hp
          rcases List.mem_or_eq_of_mem_set hp with hp | rfl
          · have := HDD.out p hp; omega
          · simp only []; omega)
        have t0 := hprep.1.get (b := w.heap.size) (o := 0) (v := .int .i64 x) (by simp)
        have t1 := hprep.1.get (b := w.heap.size) (o := 1) (v := .int .i64 y) (by simp)
        have t2 := hprep.1.get (b := w.heap.size) (o := 2) (v := .slice G gr.length gc) (by simp)
        have hol2 : out.length ≤ 9223372036854775807 := by omega
        clear hprep hw6 ho2 d0 d1 d2 d3 d4 d4' q0 q1 q2 q2' s0 s1 s2 fz3 fz4
        refine (chk_f' (some ⟨b, 0, none⟩) G c3 gc out.length out2 x y gr w6 hlen2 hol2 hc3 hgl HR6.out (hg.to HK6.out.1) HD2.out).mono ?_
        rintro e w7 ⟨rfl, hb7⟩
        have K7 := HK6.out.to hb7
        have HK7 := Lib.hid K7
        have HR7 := Lib.hid (HR6.out.to hb7)
        have u0 := K7.get (b := w.heap.size) (o := 0) (v := .int .i64 x) (by simp)
        have u1 := K7.get (b := w.heap.size) (o := 1) (v := .int .i64 y) (by simp)
        have u2 := K7.get (b := w.heap.size) (o := 2) (v := .slice G gr.length gc) (by simp)
        clear t0 t1 t2 hb7 K7
        go_wp2_with fail
        refine (chk_r' (some ⟨b, 0, none⟩) G c3 gc out.length out2 x y gr w7 hlen2 hol2 hc3 hgl HR7.out (hg.to HK7.out.1) HD2.out).mono ?_
        rintro e w8 ⟨rfl, hb8⟩
        have hbe := (HK7.out.to hb8).1
        clear u0 u1 u2 hb8
        obtain ⟨r1, r2, hr12⟩ : ∃ r1 r2, chkAll out2 x y gr = (r1, r2) := ⟨_, _, rfl⟩
        rw [hr12]
        clear hr12
        have e5 : (r1 == r1) = true := by simp
        have e6 : (r2 == r2) = true := by simp
        go_wp2
        go_ret
        exact ⟨rfl, hbe⟩
      · have hways : ¬ 0 < out.length ∨ (0 < out.length ∧ ¬ 0 ≤ a0) := by omega
        rcases hways with hno | ⟨hpos, hno⟩
        all_goals
          go_wp2_with fail
          refine (chk_f A3 G c3 gc out x y gr wr (by omega) hc3 hgl (HO3.out.to HB4.out) (hg.to HKr.out.1) (fun p hp => by have := HDD.out p hp; omega)).mono ?_
          rintro e w5 ⟨rfl, hb5⟩
          have K5 := HKr.out.to hb5
          have HK5 := Lib.hid K5
          have t0 := K5.get (b := w.heap.size) (o := 0) (v := .int .i64 x) (by simp)
          have t1 := K5.get (b := w.heap.size) (o := 1) (v := .int .i64 y) (by simp)
          have t2 := K5.get (b := w.heap.size) (o := 2) (v := .slice G gr.length gc) (by simp)
          have HO5 := Lib.hid ((HO3.out.to HB4.out).to hb5)
          clear s0 s1 s2 hb5 K5
          go_wp2_with fail
          refine (chk_r A3 G c3 gc out x y gr w5 (by omega) hc3 hgl HO5.out (hg.to HK5.out.1) (fun p hp => by have := HDD.out p hp; omega)).mono ?_
          rintro e w6 ⟨rfl, hb6⟩
          have hbe := (HK5.out.to hb6).1
          clear t0 t1 t2 hb6
          obtain ⟨r1, r2, hr12⟩ : ∃ r1 r2, chkAll out x y gr = (r1, r2) := ⟨_, _, rfl⟩
          rw [hr12]
          clear hr12
          have e5 : (r1 == r1) = true := by simp
          have e6 : (r2 == r2) = true := by simp
          go_wp2
          go_ret
          exact ⟨rfl, hbe⟩
end Go.Proofs.Ythoocjcbpjdjhaa
