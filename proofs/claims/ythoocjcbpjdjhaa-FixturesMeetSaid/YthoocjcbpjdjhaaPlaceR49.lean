/-
  Chapter 49: Place of the reference.
-/
import Derived.Test.YthoocjcbpjdjhaaPlace49
import Derived.Deep.LoopGhost
namespace Go.Proofs.Ythoocjcbpjdjhaa
open Go.RowKit

theorem known_r' (r h a x y : Int) (A : Option Addr) (n c : Nat) (w : World) :
    Calls Try.prog 28 #[.agg #[.int .i64 r, .int .i64 h, .int .i64 a], .agg #[.int .i64 x, .int .i64 y, .slice A n c]] w fun e w' => e = .returned (.bool (knownL ⟨r, h, a⟩ n)) ∧ Below w.heap.size w w' := known_r ⟨r, h, a⟩ x y A n c w
theorem early_r' (A A2 : Option Addr) (c n2 c2 : Nat) (l : List Pf) (r h a x y : Int) (w : World) (hl : l.length ≤ 1000) (hr : Rd pfE 5 w w.heap.size A l)
    (hx : 0 ≤ x ∧ x ≤ 1000000) (hy : 0 ≤ y ∧ y ≤ 1000) (hd : ∀ p ∈ l, 0 ≤ p.d ∧ p.d ≤ 1000000) :
    Calls Try.prog 29 #[.slice A l.length c, .agg #[.int .i64 r, .int .i64 h, .int .i64 a], .agg #[.int .i64 x, .int .i64 y, .slice A2 n2 c2]] w fun e w' => e = .returned (.int .i64 (earlyL ⟨r, h, a⟩ y x l)) ∧ Below w.heap.size w w' :=
  early_r A A2 c n2 c2 l ⟨r, h, a⟩ x y w hl hr hx hy hd
theorem early_bd {f : Fx} {x y : Int} {l : List Pf} (hx : 0 ≤ x ∧ x ≤ 109572) (hy : 0 ≤ y ∧ y ≤ 400) (hd : OkDays l) : 0 ≤ earlyL f y x l ∧ earlyL f y x l ≤ 1002000 := by
  unfold earlyL
  have key : ∀ (l : List Pf) (d : Int), OkDays l → 0 ≤ d → d ≤ 1002000 → 0 ≤ l.foldl (fun day q => if playsL q.f f.h || playsL q.f f.a then max day (q.d + y + 1) else day) d ∧ l.foldl (fun day q => if playsL q.f f.h || playsL q.f f.a then max day (q.d + y + 1) else day) d ≤ 1002000 := by
    intro l
    induction l with
    | nil => intro d _ h0 h1; exact ⟨h0, h1⟩
    | cons q l ih =>
      intro d hok h0 h1
      have hq := hok q (by simp)
      simp only [List.foldl_cons]
      refine ih _ (fun p hp => hok p (by simp [hp])) ?_ ?_ <;> split <;> omega
  exact key l x hd hx.1 (by omega)

def BumpR (W : World) (out : List Pf) (f : Fx) (g D : Int) (PB : Nat) (k : Nat) (wr : World) : Prop :=
  ∃ j : Nat, j + k = 1000 ∧ (∀ t : Nat, t < j → takenL out g (D + t) = true) ∧
    wr.heap[PB]? = some (.cells #[.int .i64 f.r, .int .i64 f.h, .int .i64 f.a, .int .i64 (D + j), .int .i64 g] 39 (0, 0)) ∧ Below W.heap.size W wr
theorem set5 {w : World} {b : Nat} {a0 a1 a2 a3 a4 v0 v1 v2 v3 v4 : Value} {t : TypeId} (h : w.heap[b]? = some (.cells #[a0, a1, a2, a3, a4] t (0, 0))) :
    (((((w.setCell ⟨b, 0, none⟩ v0).setCell ⟨b, 1, none⟩ v1).setCell ⟨b, 2, none⟩ v2).setCell ⟨b, 3, none⟩ v3).setCell ⟨b, 4, none⟩ v4).heap[b]? = some (.cells #[v0, v1, v2, v3, v4] t (0, 0)) := by
  have h0 := heap_setCell_same w b 0 _ _ v0 h
  have h1 := heap_setCell_same _ b 1 _ _ v1 h0
  have h2 := heap_setCell_same _ b 2 _ _ v2 h1
  have h3 := heap_setCell_same _ b 3 _ _ v3 h2
  have h4 := heap_setCell_same _ b 4 _ _ v4 h3
  rw [h4]; simp
set_option maxRecDepth 100000 in
set_option maxHeartbeats 2000000 in
theorem place_r (A G : Option Addr) (c gc : Nat) (l : List Fx) (x y : Int) (gr : List Int) (w : World) (hl : l.length ≤ 9223372036854775807) (hgl : gr.length ≤ 9223372036854775807)
    (hr : Rd fxE 3 w w.heap.size A l) (hg : Rd inE 1 w w.heap.size G gr) :
    Calls Try.prog 13 #[.slice A l.length c, .agg #[.int .i64 x, .int .i64 y, .slice G gr.length gc]] w (PlPost w l x y gr) := by
  by_cases hs : seasonL l.length x y gr = 0
  · have hbd := season_ok hs
    have e0 : (seasonL l.length x y gr != 0) = false := by simp [hs]
    have HS := Lib.hid hs
    clear hs
    go_enter Try.func13, Try.ntmps13
    go_wp2_with (go_at_call 27; refine (season_r _ _ _ _ _ _ _ (hg.to (cur_new _ _)) hgl).mono ?_; rintro e w1 ⟨rfl, hb1⟩)
    have K1 : Keep w w1 [(w.heap.size, 0, .int .i64 x), (w.heap.size, 1, .int .i64 y), (w.heap.size, 2, .slice G gr.length gc)] := Keep.to (Keep.start (cur_new w _) (by simp)) hb1
    go_loopw [7, 20] (PlI w l x y G gc gr) (fun _ i _ => l.length - (intOf i).toNat)
    case atStart => exact ⟨0, [], none, 0, Nat.zero_le _, rfl, rfl, rfl, fun p hp => by simp at hp, rfl, World.ownsRow_nil _ _ _ _, K1⟩
    case round =>
      clear hb1 K1
      obtain ⟨k, out, A7, c7, hk, rfl, rfl, hlen, hok, hsim, hown, hK⟩ := hrel
      have HL := Lib.hid hlen
      have HSIM := Lib.hid hsim
      have HOWN := Lib.hid hown
      have HK := Lib.hid hK
      have HOK := Lib.hid hok
      have hol : out.length ≤ 400 := by omega
      have s0 := hK.get (b := w.heap.size) (o := 0) (v := .int .i64 x) (by simp)
      have s1 := hK.get (b := w.heap.size) (o := 1) (v := .int .i64 y) (by simp)
      have s2 := hK.get (b := w.heap.size) (o := 2) (v := .slice G gr.length gc) (by simp)
      have zs := hK.lt (b := w.heap.size) (o := 0) (v := .int .i64 x) (by simp)
      have hbw := hK.1
      by_cases hlt : k < l.length
      · obtain ⟨f, hf⟩ : ∃ f, l[k]? = some f := ⟨_, List.getElem?_eq_getElem hlt⟩
        obtain ⟨b, off, rfl, hbb, c0, c1, c2⟩ := rdFx hr hbw hf
        obtain ⟨fr, fh, fa⟩ := f
        have HF := Lib.hid hf
        clear hf hlen hsim hown hK hok hbw
        by_cases hkn : knownL ⟨fr, fh, fa⟩ gr.length = true
        · have hkk := known_ok hkn
          simp only [] at hkk
          obtain ⟨hn, rfl⟩ : ∃ hn : Nat, fh = hn := ⟨fh.toNat, by omega⟩
          have HKN := Lib.hid hkn
          obtain ⟨wo, rfl⟩ : ∃ wo : World, wo = wr := ⟨_, rfl⟩
          go_wp2_with fail
          refine (known_r' _ _ _ _ _ _ _ _ _).mono ?_
          rintro e w2 ⟨rfl, hb2⟩
          have hcur := cur_step0 hb2
          have K2 : Keep w w2 ([(wo.heap.size, 0, .int .i64 fr), (wo.heap.size, 1, .int .i64 hn), (wo.heap.size, 2, .int .i64 fa)] ++ [(w.heap.size, 0, .int .i64 x), (w.heap.size, 1, .int .i64 y), (w.heap.size, 2, .slice G gr.length gc)]) :=
            Keep.to (Keep.more (HK.out.to (cur_new wo _)) (by simp)) hb2
          obtain ⟨A7', c7', hv7, hrd, hbase⟩ := OwnL.rd pfE_len (own_below HOWN.out hcur (Nat.le_refl _))
          injection hv7 with hv1 hv2 hv3
          subst hv1 hv3
          have HK2 := Lib.hid K2
          have HCUR := Lib.hid hcur
          have HRD := Lib.hid hrd
          have b0 := K2.get (b := wo.heap.size) (o := 0) (v := .int .i64 fr) (by simp)
          have b1 := K2.get (b := wo.heap.size) (o := 1) (v := .int .i64 hn) (by simp)
          have b2 := K2.get (b := wo.heap.size) (o := 2) (v := .int .i64 fa) (by simp)
          have t0 := K2.get (b := w.heap.size) (o := 0) (v := .int .i64 x) (by simp)
          have t1 := K2.get (b := w.heap.size) (o := 1) (v := .int .i64 y) (by simp)
          have t2 := K2.get (b := w.heap.size) (o := 2) (v := .slice G gr.length gc) (by simp)
          have l1 := K2.lt (b := wo.heap.size) (o := 0) (v := .int .i64 fr) (by simp)
          have l2 := K2.lt (b := w.heap.size) (o := 0) (v := .int .i64 x) (by simp)
          obtain ⟨gv, hgv⟩ : ∃ gv, gr[hn]? = some gv := ⟨_, List.getElem?_eq_getElem (by omega)⟩
          have hga : grAt gr hn = gv := by unfold grAt; simp [List.getD, hgv]
          have HGV := Lib.hid hgv
          have HGA := Lib.hid hga
          obtain ⟨gb, goff, rfl, hgb, gg⟩ := rdIn hg K2.1 hgv
          have hbd2 := early_bd (f := ⟨fr, hn, fa⟩) (x := x) (y := y) (by omega) (by omega) HOK.out
          have l3 : gb < w2.heap.size := by omega
          have m1 : wo.heap.size ≠ w2.heap.size := by omega
          have m2 : w.heap.size ≠ w2.heap.size := by omega
          have m3 : gb ≠ w2.heap.size := by omega
          have m4 : ¬ w2.heap.size = wo.heap.size := by omega
          have m5 : ¬ w2.heap.size = w.heap.size := by omega
          have m6 : ¬ w2.heap.size = gb := by omega
          have HB0 := Lib.hid b0
          clear K2 hb2 hcur hbase s0 s1 s2 c0 c1 c2 hv2 hgv hga
          go_wp2_with fail
          go_region_held3 (fun w' => w'.cell? ⟨wo.heap.size, 0, none⟩ = some (.int .i64 fr) ∧ w'.cell? ⟨wo.heap.size, 1, none⟩ = some (.int .i64 hn) ∧ w'.cell? ⟨wo.heap.size, 2, none⟩ = some (.int .i64 fa) ∧
              w'.cell? ⟨w.heap.size, 0, none⟩ = some (.int .i64 x) ∧ w'.cell? ⟨w.heap.size, 1, none⟩ = some (.int .i64 y) ∧ w'.cell? ⟨w.heap.size, 2, none⟩ = some (.slice (some ⟨gb, goff, none⟩) gr.length gc) ∧ w'.cell? ⟨gb, goff + hn, none⟩ = some (.int .i64 gv))
            (first
              | (go_keep; done)
              | (refine ⟨?_, ?_, ?_, ?_, ?_, ?_, ?_⟩ <;> (go_keep; done))
              | (go_split_ands
                 refine ⟨?_, ?_, ?_, ?_, ?_, ?_, ?_⟩ <;> (rw [hb4.cell (by simp; omega)]; first | assumption | (go_keep; done)))
              | (refine ⟨?_, ?_, ?_, ?_, ?_, ?_, ?_⟩ <;> (go_loud (rw [World.cell?_alloc_lt _ _ _ (by assumption), hb4.cell (by simp; omega)]; first | assumption | (go_keep; done)))))
            ((go_at_call 29; refine (early_r' _ _ _ _ _ _ _ _ _ _ _ _ (by omega) (HRD.out.to (by first | exact (Below.refl _ _) | exact (Below.refl _ _).drew | exact (cur_new _ _) | exact (cur_new _ _).drew)) (by omega) (by omega) (fun p hp => by have := HOK.out p hp; omega)).mono ?_; rintro e w4 ⟨rfl, hb4⟩; obtain ⟨cc4, cf4⟩ := bcell hb4; have z4 := hb4.size; (try simp at z4); have z5 : wo.heap.size < w4.heap.size := (by omega); have z6 : w.heap.size < w4.heap.size := (by omega); have z7 : gb < w4.heap.size := (by omega)))
          · have hBW : Below w2.heap.size w2 (w4.alloc (.cells #[.int .i64 fr, .int .i64 hn, .int .i64 fa, .int .i64 (earlyL ⟨fr, hn, fa⟩ y x out), .int .i64 gv] 39)) := cur_step1 (wx := w4) ((Below.refl _ _).drew.trans hb4) (cur_new _ _)
            have hblk := heap_alloc_new w4 (.cells #[.int .i64 fr, .int .i64 hn, .int .i64 fa, .int .i64 (earlyL ⟨fr, hn, fa⟩ y x out), .int .i64 gv] 39)
            go_wp2_with fail
            go_loopg [] 1000 (BumpR w2 out ⟨fr, hn, fa⟩ gv (earlyL ⟨fr, hn, fa⟩ y x out) (w4.heap.size))
            case atStart => exact ⟨0, rfl, fun t ht => by omega, by rw [hblk]; simp, hBW⟩
            case round =>
              have hz4 : w2.heap.size ≤ w4.heap.size := by omega
              clear hBW hblk hb4 cc4 cf4 z4 z5 z6 z7
              obtain ⟨j, hjk, htk, hblk, hBW⟩ := hrel
              have hj3 := free_room htk
              have q3 := cell_of_row wr (w4.heap.size) 3 _ _ _ hblk
              have q4 := cell_of_row wr (w4.heap.size) 4 _ _ _ hblk
              have hPlt : (w4.heap.size) < wr.heap.size := (Array.getElem?_eq_some_iff.1 hblk).1
              simp at q3 q4
              have HTK := Lib.hid htk
              have HBK := Lib.hid hblk
              have HBW := Lib.hid hBW
              have HR4 := HRD.out.to hBW
              obtain ⟨D, hD⟩ : ∃ D, D = earlyL ⟨fr, hn, fa⟩ y x out := ⟨_, rfl⟩
              rw [← hD] at hbd2 q3 HTK HBK
              have HD := Lib.hid hD
              clear htk hblk hBW hD
              go_wp2_with fail
              refine (taken_r _ _ _ _ _ _ (by omega) HR4).mono ?_
              rintro e w5 ⟨rfl, hb5⟩
              have hblk5 := (hb5.block (w4.heap.size) hPlt).trans HBK.out
              have r0 := cell_of_row w5 (w4.heap.size) 0 _ _ _ hblk5
              have r1 := cell_of_row w5 (w4.heap.size) 1 _ _ _ hblk5
              have r2 := cell_of_row w5 (w4.heap.size) 2 _ _ _ hblk5
              have r3 := cell_of_row w5 (w4.heap.size) 3 _ _ _ hblk5
              have r4 := cell_of_row w5 (w4.heap.size) 4 _ _ _ hblk5
              have f3 := frozen_of_row w5 (w4.heap.size) 3 _ _ hblk5
              simp at r0 r1 r2 r3 r4
              have hBW5 := cur_step1 HBW.out hb5
              have HB5 := Lib.hid hBW5
              have HK5 := Lib.hid hblk5
              have K5 := HK2.out.to hBW5
              have HKK := Lib.hid K5
              clear hb5 hBW5 hblk5 K5
              by_cases hfr : takenL out gv (D + j) = true
              · have HFR := Lib.hid hfr
                go_wp2
                go_roundg (gk - 1)
                case measure => omega
                case rel =>
                  refine ⟨j + 1, by omega, ?_, ?_, HB5.out.setCell (by first | exact Nat.le_refl _ | exact hz4) _⟩
                  · rw [← HD.out]; exact free_step HTK.out HFR.out
                  · rw [← HD.out, heap_setCell_same w5 (w4.heap.size) 3 _ _ _ HK5.out]; simp; omega
              · have hfr : takenL out gv (D + j) = false := by simpa using hfr
                have HFR := Lib.hid (free_eq HTK.out hfr)
                have hDL : dayL ⟨fr, hn, fa⟩ x y gr out = D + j := by unfold dayL; simp only []; rw [HGA.out, ← HD.out, HFR.out]
                have HDL := Lib.hid hDL
                have hsimk : placeL x y gr (l.drop k) out = if 109572 < D + j then ([], 15) else placeL x y gr (l.drop (k + 1)) (out ++ [⟨⟨fr, hn, fa⟩, D + j, gv⟩]) := by
                  rw [drop_next HF.out]
                  show (if knownL ⟨fr, hn, fa⟩ gr.length = true then _ else _) = _
                  rw [if_pos HKN.out, hDL, HGA.out]
                clear hDL
                by_cases hbig : 109572 < D + j
                · have hall : placeAll l x y gr = ([], 15) := by unfold placeAll; rw [if_pos HS.out, ← HSIM.out, hsimk, if_pos hbig]
                  have HALL := Lib.hid hall
                  clear hall hsimk
                  go_wp2
                  go_ret2
                  exact ⟨_, by rw [HALL.out]; rfl, by rw [HALL.out]; exact World.ownsRow_nil _ _ _ _, HKK.out.1⟩
                · have hall : placeL x y gr (l.drop (k + 1)) (out ++ [⟨⟨fr, hn, fa⟩, D + j, gv⟩]) = placeL x y gr l [] := by rw [← HSIM.out, hsimk, if_neg hbig]
                  have HALL := Lib.hid hall
                  have hc5 := cur_step1 HCUR.out HB5.out
                  have hown5 := own_below HOWN.out hc5 (Nat.le_refl _)
                  have hsz5 : w.heap.size + 1 ≤ w5.heap.size := by have := HB5.out.size; omega
                  have n2 : (Value.slice A7 out.length c7).ownBlock ≠ some w.heap.size := fun e => by have := World.ownsRow.lt HOWN.out _ e; omega
                  have HO5 := Lib.hid hown5
                  clear hall hsimk hc5 hown5
                  go_wp2_with (at_builtin; refine wpList_app1 Try.pfElem _ rfl (.tmp 53) (.tmp 55) rfl (w.heap.size + 1) A7 c7 out rfl ?o1 ⟨⟨fr, hn, fa⟩, D + j, gv⟩ w5.heap.size 1 rfl ?o2 ?o3 ?o4 ?o5 ?_)
                  case o1 => exact own_below HO5.out (cur_new _ _) (Nat.le_refl _)
                  case o2 => exact heap_alloc_new _ _
                  case o3 => unfold maxLen; omega
                  case o4 => omega
                  case o5 => simp; omega
                  intro g cap w6 ha
                  have hrel6 := pl_next (f := ⟨fr, hn, fa⟩) hlt HL.out HOK.out (by omega) (by omega) HALL.out HKK.out (cur_new w5 _) ha (fun b e => by have := World.ownsRow.lt HOWN.out b e; omega) n2
                  clear ha
                  go_wp2
                  go_roundw
                  case rel => exact hrel6
                  case measure => simp [intOf]; omega
          · have hblk0 := (hb4.block w2.heap.size (by simp)).trans (heap_alloc_new w2 _)
            have hblk := set5 (v0 := .int .i64 fr) (v1 := .int .i64 hn) (v2 := .int .i64 fa) (v3 := .int .i64 (earlyL ⟨fr, hn, fa⟩ y x out)) (v4 := .int .i64 gv) hblk0
            have hbw4 : Below w2.heap.size w2 w4 := (Below.refl _ _ |>.alloc (Nat.le_refl _) _ |>.drew).trans (hb4.mono (by simp))
            have hBW := ((((hbw4.setCell (p := ⟨w2.heap.size, 0, none⟩) (Nat.le_refl _) (.int .i64 fr)).setCell (p := ⟨w2.heap.size, 1, none⟩) (Nat.le_refl _) (.int .i64 hn)).setCell (p := ⟨w2.heap.size, 2, none⟩) (Nat.le_refl _) (.int .i64 fa)).setCell (p := ⟨w2.heap.size, 3, none⟩) (Nat.le_refl _) (.int .i64 (earlyL ⟨fr, hn, fa⟩ y x out))).setCell (p := ⟨w2.heap.size, 4, none⟩) (Nat.le_refl _) (.int .i64 gv)
            clear hblk0 hbw4
            go_wp2_with fail
            go_loopg [] 1000 (BumpR w2 out ⟨fr, hn, fa⟩ gv (earlyL ⟨fr, hn, fa⟩ y x out) (w2.heap.size))
            case atStart => exact ⟨0, rfl, fun t ht => by omega, by rw [hblk]; simp, hBW⟩
            case round =>
              have hz4 : w2.heap.size ≤ w4.heap.size := by omega
              clear hBW hblk hb4 cc4 cf4 z4 z5 z6 z7
              obtain ⟨j, hjk, htk, hblk, hBW⟩ := hrel
              have hj3 := free_room htk
              have q3 := cell_of_row wr (w2.heap.size) 3 _ _ _ hblk
              have q4 := cell_of_row wr (w2.heap.size) 4 _ _ _ hblk
              have hPlt : (w2.heap.size) < wr.heap.size := (Array.getElem?_eq_some_iff.1 hblk).1
              simp at q3 q4
              have HTK := Lib.hid htk
              have HBK := Lib.hid hblk
              have HBW := Lib.hid hBW
              have HR4 := HRD.out.to hBW
              obtain ⟨D, hD⟩ : ∃ D, D = earlyL ⟨fr, hn, fa⟩ y x out := ⟨_, rfl⟩
              rw [← hD] at hbd2 q3 HTK HBK
              have HD := Lib.hid hD
              clear htk hblk hBW hD
              go_wp2_with fail
              refine (taken_r _ _ _ _ _ _ (by omega) HR4).mono ?_
              rintro e w5 ⟨rfl, hb5⟩
              have hblk5 := (hb5.block (w2.heap.size) hPlt).trans HBK.out
              have r0 := cell_of_row w5 (w2.heap.size) 0 _ _ _ hblk5
              have r1 := cell_of_row w5 (w2.heap.size) 1 _ _ _ hblk5
              have r2 := cell_of_row w5 (w2.heap.size) 2 _ _ _ hblk5
              have r3 := cell_of_row w5 (w2.heap.size) 3 _ _ _ hblk5
              have r4 := cell_of_row w5 (w2.heap.size) 4 _ _ _ hblk5
              have f3 := frozen_of_row w5 (w2.heap.size) 3 _ _ hblk5
              simp at r0 r1 r2 r3 r4
              have hBW5 := cur_step1 HBW.out hb5
              have HB5 := Lib.hid hBW5
              have HK5 := Lib.hid hblk5
              have K5 := HK2.out.to hBW5
              have HKK := Lib.hid K5
              clear hb5 hBW5 hblk5 K5
              by_cases hfr : takenL out gv (D + j) = true
              · have HFR := Lib.hid hfr
                go_wp2
                go_roundg (gk - 1)
                case measure => omega
                case rel =>
                  refine ⟨j + 1, by omega, ?_, ?_, HB5.out.setCell (by first | exact Nat.le_refl _ | exact hz4) _⟩
                  · rw [← HD.out]; exact free_step HTK.out HFR.out
                  · rw [← HD.out, heap_setCell_same w5 (w2.heap.size) 3 _ _ _ HK5.out]; simp; omega
              · have hfr : takenL out gv (D + j) = false := by simpa using hfr
                have HFR := Lib.hid (free_eq HTK.out hfr)
                have hDL : dayL ⟨fr, hn, fa⟩ x y gr out = D + j := by unfold dayL; simp only []; rw [HGA.out, ← HD.out, HFR.out]
                have HDL := Lib.hid hDL
                have hsimk : placeL x y gr (l.drop k) out = if 109572 < D + j then ([], 15) else placeL x y gr (l.drop (k + 1)) (out ++ [⟨⟨fr, hn, fa⟩, D + j, gv⟩]) := by
                  rw [drop_next HF.out]
                  show (if knownL ⟨fr, hn, fa⟩ gr.length = true then _ else _) = _
                  rw [if_pos HKN.out, hDL, HGA.out]
                clear hDL
                by_cases hbig : 109572 < D + j
                · have hall : placeAll l x y gr = ([], 15) := by unfold placeAll; rw [if_pos HS.out, ← HSIM.out, hsimk, if_pos hbig]
                  have HALL := Lib.hid hall
                  clear hall hsimk
                  go_wp2
                  go_ret2
                  exact ⟨_, by rw [HALL.out]; rfl, by rw [HALL.out]; exact World.ownsRow_nil _ _ _ _, HKK.out.1⟩
                · have hall : placeL x y gr (l.drop (k + 1)) (out ++ [⟨⟨fr, hn, fa⟩, D + j, gv⟩]) = placeL x y gr l [] := by rw [← HSIM.out, hsimk, if_neg hbig]
                  have HALL := Lib.hid hall
                  have hc5 := cur_step1 HCUR.out HB5.out
                  have hown5 := own_below HOWN.out hc5 (Nat.le_refl _)
                  have hsz5 : w.heap.size + 1 ≤ w5.heap.size := by have := HB5.out.size; omega
                  have n2 : (Value.slice A7 out.length c7).ownBlock ≠ some w.heap.size := fun e => by have := World.ownsRow.lt HOWN.out _ e; omega
                  have HO5 := Lib.hid hown5
                  clear hall hsimk hc5 hown5
                  go_wp2_with (at_builtin; refine wpList_app1 Try.pfElem _ rfl (.tmp 53) (.tmp 55) rfl (w.heap.size + 1) A7 c7 out rfl ?o1 ⟨⟨fr, hn, fa⟩, D + j, gv⟩ w5.heap.size 1 rfl ?o2 ?o3 ?o4 ?o5 ?_)
                  case o1 => exact own_below HO5.out (cur_new _ _) (Nat.le_refl _)
                  case o2 => exact heap_alloc_new _ _
                  case o3 => unfold maxLen; omega
                  case o4 => omega
                  case o5 => simp; omega
                  intro g cap w6 ha
                  have hrel6 := pl_next (f := ⟨fr, hn, fa⟩) hlt HL.out HOK.out (by omega) (by omega) HALL.out HKK.out (cur_new w5 _) ha (fun b e => by have := World.ownsRow.lt HOWN.out b e; omega) n2
                  clear ha
                  go_wp2
                  go_roundw
                  case rel => exact hrel6
                  case measure => simp [intOf]; omega
        · have hkn : knownL ⟨fr, fh, fa⟩ gr.length = false := by simpa using hkn
          have hall : placeAll l x y gr = ([], 1) := by
            unfold placeAll; rw [if_pos HS.out, ← HSIM.out, drop_next HF.out]
            show (if knownL ⟨fr, fh, fa⟩ gr.length = true then _ else _) = _
            rw [if_neg (by rw [hkn]; simp)]
          have HALL := Lib.hid hall
          clear hall
          go_wp2_with fail
          refine (known_r' _ _ _ _ _ _ _ _ _).mono ?_
          rintro e w2 ⟨rfl, hb2⟩
          have hbe := HK.out.1.trans ((cur_step0 hb2).mono HK.out.1.size)
          go_wp2
          go_ret2
          exact ⟨_, by rw [HALL.out]; rfl, by rw [HALL.out]; exact World.ownsRow_nil _ _ _ _, hbe⟩
      · have hk2 : k = l.length := by omega
        have hall : placeAll l x y gr = (out, 0) := by unfold placeAll; rw [if_pos HS.out, ← HSIM.out, hk2, List.drop_length]; rfl
        have HALL := Lib.hid hall
        clear hall hk2 hsim hK hown hok hlen
        go_wp2
        go_ret2
        exact ⟨_, by rw [HALL.out]; rfl, by rw [HALL.out]; exact own_mono HOWN.out (by omega), hbw⟩
  · have e0 : (seasonL l.length x y gr != 0) = true := by simpa using hs
    have hall : placeAll l x y gr = ([], seasonL l.length x y gr) := by unfold placeAll; rw [if_neg hs]
    have HALL := Lib.hid hall
    clear hs hall
    go_enter Try.func13, Try.ntmps13
    go_wp2_with (go_at_call 27; refine (season_r _ _ _ _ _ _ _ (hg.to (cur_new _ _)) hgl).mono ?_; rintro e w1 ⟨rfl, hb1⟩)
    go_ret2
    exact ⟨_, by rw [HALL.out]; rfl, by rw [HALL.out]; exact World.ownsRow_nil _ _ _ _, cur_step0 hb1⟩
end Go.Proofs.Ythoocjcbpjdjhaa
