/-
  Chapter 49: Place of the program.
-/
import Derived.Test.YthoocjcbpjdjhaaEarly49
import Derived.Test.YthoocjcbpjdjhaaSpecP49
import Derived.Test.YthoocjcbpjdjhaaApp
import Derived.Deep.RegionHeld3
namespace Go.Proofs.Ythoocjcbpjdjhaa
open Go.RowKit

theorem Try.infoPf : (Try.prog.info? 39).map (fun i => (i.zero, i.size, i.bytes)) = some (some (.agg #[.int .i64 0, .int .i64 0, .int .i64 0, .int .i64 0, .int .i64 0]), 5, 40) := by kernel_rfl
theorem Try.pfElem : ElemOf Try.prog pfE 5 40 33 39 := .mk' Try.infoPf rfl Try.underlying33 (by decide) pfE_len (fun x u hu => by simp [pfE] at hu; rcases hu with rfl | rfl | rfl | rfl | rfl <;> rfl)

/-- What a call of Place says. -/
def PlPost (w : World) (l : List Fx) (x y : Int) (gr : List Int) (e : Ending) (w' : World) : Prop :=
  ∃ v, e = .returned (.tuple #[v, .int .i64 (placeAll l x y gr).2]) ∧ OwnL pfE 5 39 w.heap.size w' v (placeAll l x y gr).1 ∧ Below w.heap.size w w'
def OkDays (out : List Pf) : Prop := ∀ p ∈ out, 0 ≤ p.d ∧ p.d ≤ 109572

def InnI (W : World) (out : List Pf) (f : Fx) (x y : Int) (s i : Value) (wr : World) : Prop :=
  ∃ j : Nat, j ≤ out.length ∧ i = .int .i64 j ∧ s = .int .i64 (earlyL f y x (out.take j)) ∧ 0 ≤ earlyL f y x (out.take j) ∧ earlyL f y x (out.take j) ≤ 1002000 ∧ Below W.heap.size W wr
def BumpI (W : World) (out : List Pf) (g D : Int) (s : Value) (wr : World) : Prop :=
  ∃ j : Nat, s = .int .i64 (D + j) ∧ (∀ t : Nat, t < j → takenL out g (D + t) = true) ∧ Below W.heap.size W wr
theorem InnI.next {W wr w1 : World} {out : List Pf} {f : Fx} {x y s : Int} {j : Nat} (h : Below W.heap.size W wr) (hb : Below wr.heap.size wr w1) (hj : j < out.length) (e : s = earlyL f y x (out.take (j + 1))) (h0 : 0 ≤ s) (h1 : s ≤ 1002000) :
    InnI W out f x y (.int .i64 s) (.int .i64 (j + 1)) w1 := by
  subst e
  exact ⟨j + 1, hj, by simp, rfl, h0, h1, cur_step1 h hb⟩
/-- The loop: what is still to be placed, from what has been placed. -/
def PlI (w : World) (l : List Fx) (x y : Int) (G : Option Addr) (gc : Nat) (gr : List Int) (v i : Value) (wr : World) : Prop :=
  ∃ (k : Nat) (out : List Pf) (A : Option Addr) (c : Nat), k ≤ l.length ∧ i = .int .i64 k ∧ v = .slice A out.length c ∧ out.length = k ∧ OkDays out ∧ placeL x y gr (l.drop k) out = placeL x y gr l [] ∧
    OwnL pfE 5 39 (w.heap.size + 1) wr (.slice A out.length c) out ∧ Keep w wr [(w.heap.size, 0, .int .i64 x), (w.heap.size, 1, .int .i64 y), (w.heap.size, 2, .slice G gr.length gc)]

theorem pl_next {w wx w0 w1 : World} {l : List Fx} {x y : Int} {G : Option Addr} {gc : Nat} {gr : List Int} {k : Nat} {out : List Pf} {A : Option Addr} {c g cap : Nat} {f : Fx} {d gv : Int} (hk : k < l.length) (hlen : out.length = k) (hok : OkDays out)
    (h0 : 0 ≤ d) (h1 : d ≤ 109572) (hsim : placeL x y gr (l.drop (k + 1)) (out ++ [⟨f, d, gv⟩]) = placeL x y gr l [])
    {cs : List (Nat × Nat × Value)} (hK : Keep w wx (cs ++ [(w.heap.size, 0, .int .i64 x), (w.heap.size, 1, .int .i64 y), (w.heap.size, 2, .slice G gr.length gc)])) (hw : Below wx.heap.size wx w0)
    (ha : App w0 w1 (w.heap.size + 1) 39 5 (.slice A out.length c) g cap out.length 1 (out.flatMap pfE) (pfE ⟨f, d, gv⟩)) (hbase : ∀ b, (Value.slice A out.length c).ownBlock = some b → w.heap.size ≤ b) (hne : (Value.slice A out.length c).ownBlock ≠ some w.heap.size) :
    PlI w l x y G gc gr (.slice (some ⟨g, 0, none⟩) (out.length + 1) cap) (.int .i64 (k + 1)) w1 := by
  refine ⟨k + 1, out ++ [⟨f, d, gv⟩], some ⟨g, 0, none⟩, cap, hk, by simp, by simp, by simp [hlen], ?_, hsim, ?_, ?_⟩
  · intro p hp
    rcases List.mem_append.1 hp with h | h
    · exact hok p h
    · simp at h; subst h; exact ⟨h0, h1⟩
  · have := ha.one rfl
    simpa [OwnL] using this
  · exact Keep.app (Keep.sub hK (fun c hc => List.mem_append_right _ hc)) hw ha hbase (fun c hc => by simp at hc; rcases hc with rfl | rfl | rfl <;> exact hne)
theorem drop_next {α : Type} {l : List α} {k : Nat} {x : α} (h : l[k]? = some x) : l.drop k = x :: l.drop (k + 1) := by
  obtain ⟨hk, he⟩ := List.getElem?_eq_some_iff.1 h
  rw [List.drop_eq_getElem_cons hk, he]
theorem known_f' (r h a x y : Int) (A : Option Addr) (n c : Nat) (w : World) :
    Calls Try.prog 24 #[.agg #[.int .i64 r, .int .i64 h, .int .i64 a], .agg #[.int .i64 x, .int .i64 y, .slice A n c]] w fun e w' => e = .returned (.bool (knownL ⟨r, h, a⟩ n)) ∧ Below w.heap.size w w' := known_f ⟨r, h, a⟩ x y A n c w
set_option maxRecDepth 100000 in
set_option maxHeartbeats 2000000 in
theorem place_f (A G : Option Addr) (c gc : Nat) (l : List Fx) (x y : Int) (gr : List Int) (w : World) (hl : l.length ≤ 9223372036854775807) (hgl : gr.length ≤ 9223372036854775807)
    (hr : Rd fxE 3 w w.heap.size A l) (hg : Rd inE 1 w w.heap.size G gr) :
    Calls Try.prog 12 #[.slice A l.length c, .agg #[.int .i64 x, .int .i64 y, .slice G gr.length gc]] w (PlPost w l x y gr) := by
  by_cases hs : seasonL l.length x y gr = 0
  · have hbd := season_ok hs
    have e0 : (seasonL l.length x y gr != 0) = false := by simp [hs]
    have HS := Lib.hid hs
    clear hs
    go_enter Try.func12, Try.ntmps12
    go_wp2_with (go_at_call 23; refine (season_f _ _ _ _ _ _ _ (hg.to (cur_new _ _)) hgl).mono ?_; rintro e w1 ⟨rfl, hb1⟩; obtain ⟨cc, cf⟩ := bcell hb1; have z1 : w.heap.size < w1.heap.size := (by have q := hb1.size; (try simp at q); omega))
    have K1 : Keep w w1 [(w.heap.size, 0, .int .i64 x), (w.heap.size, 1, .int .i64 y), (w.heap.size, 2, .slice G gr.length gc)] := Keep.to (Keep.start (cur_new w _) (by simp)) hb1
    go_loopw [7, 22] (PlI w l x y G gc gr) (fun _ i _ => l.length - (intOf i).toNat)
    case atStart => exact ⟨0, [], none, 0, Nat.zero_le _, rfl, rfl, rfl, fun p hp => by simp at hp, rfl, World.ownsRow_nil _ _ _ _, K1⟩
    case round =>
      clear cc cf hb1 z1 K1
      obtain ⟨k, out, A7, c7, hk, rfl, rfl, hlen, hok, hsim, hown, hK⟩ := hrel
      have HL := Lib.hid hlen
      have HSIM := Lib.hid hsim
      have HOWN := Lib.hid hown
      have HK := Lib.hid hK
      have HOK := Lib.hid hok
      have hol : out.length ≤ 400 := by omega
      have s0 := hK.get (b := w.heap.size) (o := 0) (v := .int .i64 x) (by simp)
      have s1 := hK.get (b := w.heap.size) (o := 1) (v := .int .i64 y) (by simp)
      have s2 := hK.get (b := w.heap.size) (o := 2) (v := .slice G gr.length gc) (by simp)
      have zs := hK.lt (b := w.heap.size) (o := 0) (v := .int .i64 x) (by simp)
      have hbw := hK.1
      by_cases hlt : k < l.length
      · obtain ⟨f, hf⟩ : ∃ f, l[k]? = some f := ⟨_, List.getElem?_eq_getElem hlt⟩
        obtain ⟨b, off, rfl, hbb, c0, c1, c2⟩ := rdFx hr hbw hf
        obtain ⟨fr, fh, fa⟩ := f
        have HF := Lib.hid hf
        clear hf hlen hsim hown hK hok hbw
        by_cases hkn : knownL ⟨fr, fh, fa⟩ gr.length = true
        · have hkk := known_ok hkn
          simp only [] at hkk
          obtain ⟨hn, rfl⟩ : ∃ hn : Nat, fh = hn := ⟨fh.toNat, by omega⟩
          have HKN := Lib.hid hkn
          go_wp2_with fail
          refine (known_f' _ _ _ _ _ _ _ _ _).mono ?_
          rintro e w2 ⟨rfl, hb2⟩
          have hcur := cur_step0 hb2
          have K2 : Keep w w2 ([(wr.heap.size, 0, .int .i64 fr), (wr.heap.size, 1, .int .i64 hn), (wr.heap.size, 2, .int .i64 fa)] ++ [(w.heap.size, 0, .int .i64 x), (w.heap.size, 1, .int .i64 y), (w.heap.size, 2, .slice G gr.length gc)]) :=
            Keep.to (Keep.more (HK.out.to (cur_new wr _)) (by simp)) hb2
          obtain ⟨A7', c7', hv7, hrd, hbase⟩ := OwnL.rd pfE_len (own_below HOWN.out hcur (Nat.le_refl _))
          injection hv7 with hv1 hv2 hv3
          subst hv1 hv3
          have HK2 := Lib.hid K2
          have HCUR := Lib.hid hcur
          have HRD := Lib.hid hrd
          have HBS := Lib.hid hbase
          have t0 := K2.get (b := w.heap.size) (o := 0) (v := .int .i64 x) (by simp)
          clear K2 hb2 hcur hbase s0 s1 s2 c0 c1 c2 hrd hv2
          obtain ⟨wo, rfl⟩ : ∃ wo : World, wo = wr := ⟨_, rfl⟩
          go_wp2
          go_loopw [10, 34] (InnI w2 out ⟨fr, hn, fa⟩ x y) (fun _ i _ => out.length - (intOf i).toNat)
          case atStart => exact ⟨0, Nat.zero_le _, rfl, rfl, by show 0 ≤ x; omega, by show x ≤ 1002000; omega, Below.refl _ _⟩
          case round =>
            obtain ⟨j, hj, rfl, rfl, hlo, hhi, hb⟩ := hrel
            have K3 := HK2.out.to hb
            have g0 := K3.get (b := wo.heap.size) (o := 1) (v := .int .i64 hn) (by simp)
            have g1 := K3.get (b := wo.heap.size) (o := 2) (v := .int .i64 fa) (by simp)
            have g2 := K3.get (b := w.heap.size) (o := 1) (v := .int .i64 y) (by simp)
            have y0 := K3.lt (b := w.heap.size) (o := 0) (v := .int .i64 x) (by simp)
            have y1 := K3.lt (b := wo.heap.size) (o := 1) (v := .int .i64 hn) (by simp)
            have HB := Lib.hid hb
            have HR3 := HRD.out.to hb
            clear K3
            by_cases hlt2 : j < out.length
            · obtain ⟨p, hp⟩ : ∃ p, out[j]? = some p := ⟨_, List.getElem?_eq_getElem hlt2⟩
              obtain ⟨pb, poff, rfl, hpb, p0, p1, p2, p3, p4⟩ := rdPf HR3 (Below.refl _ _) hp
              have HN := Lib.hid (early_next (f := ⟨fr, hn, fa⟩) (rest := y) (day := x) hp)
              have hpd := HOK.out p (List.mem_of_getElem? hp)
              obtain ⟨⟨pr, ph, pa⟩, pd, pg⟩ := p
              clear hp hb HR3
              by_cases e1 : playsL ⟨pr, ph, pa⟩ hn = true
              · have HE := Lib.hid e1
                go_wp2_with (go_at_call 25; refine (plays_f' _ _ _ _ _).mono ?_; rintro e w1 ⟨rfl, hb1⟩; obtain ⟨cc, cf⟩ := bcell hb1; (first | have hcur := cur_step1 hcur hb1 | have hcur := cur_step0 hb1); have z1 : wr.heap.size < w1.heap.size := (by have q := hb1.size; (try simp at q); omega); have z2 : w.heap.size < w1.heap.size := (by omega); have z3 : wo.heap.size < w1.heap.size := (by omega))
                go_roundw
                case rel =>
                  refine InnI.next HB.out hcur hlt2 ?_ ?_ ?_
                  · rw [HN.out, HE.out]; simp [Int.max_def]; omega
                  · split <;> omega
                  · split <;> omega
                case measure => simp [intOf]; omega
              have e1 : playsL ⟨pr, ph, pa⟩ hn = false := by simpa using e1
              by_cases e2 : playsL ⟨pr, ph, pa⟩ fa = true
              all_goals
                have HE := Lib.hid e1
                have HF2 := Lib.hid e2
                go_wp2_with (go_at_call 25; refine (plays_f' _ _ _ _ _).mono ?_; rintro e w1 ⟨rfl, hb1⟩; obtain ⟨cc, cf⟩ := bcell hb1; (first | have hcur := cur_step1 hcur hb1 | have hcur := cur_step0 hb1); have z1 : wr.heap.size < w1.heap.size := (by have q := hb1.size; (try simp at q); omega); have z2 : w.heap.size < w1.heap.size := (by omega); have z3 : wo.heap.size < w1.heap.size := (by omega))
                go_roundw
                case rel =>
                  refine InnI.next HB.out hcur hlt2 ?_ ?_ ?_
                  · rw [HN.out, HE.out]; simp [HF2.out, Int.max_def]; try omega
                  · (try split) <;> omega
                  · (try split) <;> omega
                case measure => simp [intOf]; omega
            · have hj2 : j = out.length := by omega
              have hday : earlyL ⟨fr, hn, fa⟩ y x (out.take j) = earlyL ⟨fr, hn, fa⟩ y x out := by rw [hj2, List.take_length]
              rw [hday] at hlo hhi ⊢
              clear hj2 hday
              obtain ⟨D, hD⟩ : ∃ D, D = earlyL ⟨fr, hn, fa⟩ y x out := ⟨_, rfl⟩
              rw [← hD] at hlo hhi ⊢
              have HD := Lib.hid hD
              clear hD HR3 hb
              obtain ⟨w3, rfl⟩ : ∃ w3 : World, w3 = wr := ⟨_, rfl⟩
              obtain ⟨gv, hgv⟩ : ∃ gv, gr[hn]? = some gv := ⟨_, List.getElem?_eq_getElem (by omega)⟩
              have hga : grAt gr hn = gv := by unfold grAt; simp [List.getD, hgv]
              have HGV := Lib.hid hgv
              have HGA := Lib.hid hga
              clear hgv hga g0 g1 g2
              go_wp2
              go_loopw [10] (BumpI w3 out gv D) (fun i _ => (D + 1000 - intOf i).toNat)
              case atStart => exact ⟨0, by simp, fun t ht => by omega, Below.refl _ _⟩
              case round =>
                obtain ⟨j2, rfl, htk, hb3⟩ := hrel
                have hj3 := free_room htk
                have hcu := cur_step1 HB.out hb3
                have K4 := HK2.out.to hcu
                have g0 := K4.get (b := wo.heap.size) (o := 1) (v := .int .i64 hn) (by simp)
                have g2 := K4.get (b := w.heap.size) (o := 2) (v := .slice G gr.length gc) (by simp)
                have HR4 := HRD.out.to hcu
                obtain ⟨gb, goff, rfl, hgb, gg⟩ := rdIn hg K4.1 HGV.out
                have HTK := Lib.hid htk
                have HB4 := Lib.hid hb3
                have HK4 := Lib.hid K4
                clear K4 htk hcu hb3
                by_cases hfr : takenL out gv (D + j2) = true
                · have HFR := Lib.hid hfr
                  go_wp2_with (go_at_call 26; refine (taken_f _ _ _ _ _ _ (by omega) HR4).mono ?_; rintro e w5 ⟨rfl, hb5⟩)
                  go_roundw
                  case rel => exact ⟨j2 + 1, val_int (by omega), free_step HTK.out HFR.out, cur_step1 HB4.out hb5⟩
                  case measure => simp [intOf]; omega
                · have hfr : takenL out gv (D + j2) = false := by simpa using hfr
                  have HFR := Lib.hid (free_eq HTK.out hfr)
                  have hDL : dayL ⟨fr, hn, fa⟩ x y gr out = D + j2 := by unfold dayL; simp only []; rw [HGA.out, ← HD.out, HFR.out]
                  have HDL := Lib.hid hDL
                  clear hDL
                  go_wp2_with fail
                  refine (taken_f _ _ _ _ _ _ (by omega) HR4).mono ?_
                  rintro e w5 ⟨rfl, hb5⟩
                  have K5 := HK4.out.to hb5
                  have hc5 := cur_step1 (cur_step1 HCUR.out HB.out) (cur_step1 HB4.out hb5)
                  have HK5 := Lib.hid K5
                  have HC5 := Lib.hid hc5
                  have hsimk : placeL x y gr (l.drop k) out = if 109572 < D + j2 then ([], 15) else placeL x y gr (l.drop (k + 1)) (out ++ [⟨⟨fr, hn, fa⟩, D + j2, gv⟩]) := by
                    rw [drop_next HF.out]
                    show (if knownL ⟨fr, hn, fa⟩ gr.length = true then _ else _) = _
                    rw [if_pos HKN.out, HDL.out, HGA.out]
                  have HSK := Lib.hid hsimk
                  clear hsimk
                  by_cases hbig : 109572 < D + j2
                  · have hall : placeAll l x y gr = ([], 15) := by unfold placeAll; rw [if_pos HS.out, ← HSIM.out, HSK.out, if_pos hbig]
                    have HALL := Lib.hid hall
                    clear hall
                    go_wp2
                    go_ret2
                    exact ⟨_, by rw [HALL.out]; rfl, by rw [HALL.out]; exact World.ownsRow_nil _ _ _ _, HK5.out.1⟩
                  · have hall : placeL x y gr (l.drop (k + 1)) (out ++ [⟨⟨fr, hn, fa⟩, D + j2, gv⟩]) = placeL x y gr l [] := by rw [← HSIM.out, HSK.out, if_neg hbig]
                    have HALL := Lib.hid hall
                    have hown5 := own_below HOWN.out HC5.out (Nat.le_refl _)
                    have b0 := K5.get (b := wo.heap.size) (o := 0) (v := .int .i64 fr) (by simp)
                    have b1 := K5.get (b := wo.heap.size) (o := 1) (v := .int .i64 hn) (by simp)
                    have b2 := K5.get (b := wo.heap.size) (o := 2) (v := .int .i64 fa) (by simp)
                    have b3 := K5.get (b := w.heap.size) (o := 2) (v := .slice (some ⟨gb, goff, none⟩) gr.length gc) (by simp)
                    obtain ⟨gb', goff', e', _, b4⟩ := rdIn hg K5.1 HGV.out
                    injection e' with e'
                    injection e' with e1 e2 _
                    subst e1 e2
                    have l1 := K5.lt (b := wo.heap.size) (o := 0) (v := .int .i64 fr) (by simp)
                    have l2 := K5.lt (b := w.heap.size) (o := 0) (v := .int .i64 x) (by simp)
                    have l3 : gb < w5.heap.size := by omega
                    have rowlt := World.ownsRow.lt HOWN.out
                    have n1 : (Value.slice A7 out.length c7).ownBlock ≠ some wo.heap.size := fun e => by have := rowlt _ e; omega
                    have n2 : (Value.slice A7 out.length c7).ownBlock ≠ some w.heap.size := fun e => by have := rowlt _ e; omega
                    have n3 : (Value.slice A7 out.length c7).ownBlock ≠ some gb := fun e => by have := rowlt _ e; omega
                    have l0 : w.heap.size + 1 ≤ w5.heap.size := by omega
                    clear hall K5 hc5 rowlt HR4 hb5 g0 g2 gg
                    go_wp2_with fail
                    go_region_held3 (fun w' => w'.cell? ⟨wo.heap.size, 0, none⟩ = some (.int .i64 fr) ∧ w'.cell? ⟨wo.heap.size, 1, none⟩ = some (.int .i64 hn) ∧ w'.cell? ⟨wo.heap.size, 2, none⟩ = some (.int .i64 fa) ∧
                        w'.cell? ⟨w.heap.size, 2, none⟩ = some (.slice (some ⟨gb, goff, none⟩) gr.length gc) ∧ w'.cell? ⟨gb, goff + hn, none⟩ = some (.int .i64 gv))
                      (first
                        | go_keep
                        | (go_split_ands
                           refine ⟨?_, ?_, ?_, ?_, ?_⟩
                           · (rw [ha.far (by simp; omega) n1]; assumption)
                           · (rw [ha.far (by simp; omega) n1]; assumption)
                           · (rw [ha.far (by simp; omega) n1]; assumption)
                           · (rw [ha.far (by simp; omega) n2]; assumption)
                           · (rw [ha.far (by simp; omega) n3]; assumption)))
                      ((refine step_app1 Try.pfElem _ (by rfl) _ _ (by rfl) (w.heap.size + 1) A7 c7 out (by rfl) ((World.ownsRow.alloc hown5 _).drew) ⟨⟨fr, hn, fa⟩, D + j2, gv⟩ w5.heap.size 1 (by rfl) (heap_alloc_new w5 _) (by unfold maxLen; omega) (by omega) (by simp; omega) ?_; intro g cap w6 ha))
                    have hrel6 := pl_next (f := ⟨fr, hn, fa⟩) hlt HL.out HOK.out (by omega) (by omega) HALL.out HK5.out (cur_new w5 _).drew ha (fun b e => by have := World.ownsRow.lt HOWN.out b e; omega) n2
                    clear ha
                    go_wp2
                    go_roundw
                    case rel => exact hrel6
                    case measure => simp [intOf]; omega
        · have hkn : knownL ⟨fr, fh, fa⟩ gr.length = false := by simpa using hkn
          have hall : placeAll l x y gr = ([], 1) := by
            unfold placeAll; rw [if_pos HS.out, ← HSIM.out, drop_next HF.out]
            show (if knownL ⟨fr, fh, fa⟩ gr.length = true then _ else _) = _
            rw [if_neg (by rw [hkn]; simp)]
          have HALL := Lib.hid hall
          clear hall
          go_wp2_with fail
          refine (known_f' _ _ _ _ _ _ _ _ _).mono ?_
          rintro e w2 ⟨rfl, hb2⟩
          have hbe := HK.out.1.trans ((cur_step0 hb2).mono HK.out.1.size)
          go_wp2
          go_ret2
          exact ⟨_, by rw [HALL.out]; rfl, by rw [HALL.out]; exact World.ownsRow_nil _ _ _ _, hbe⟩
      · have hk2 : k = l.length := by omega
        have hall : placeAll l x y gr = (out, 0) := by unfold placeAll; rw [if_pos HS.out, ← HSIM.out, hk2, List.drop_length]; rfl
        have HALL := Lib.hid hall
        clear hall hk2 hsim hK hown hok hlen
        go_wp2
        go_ret2
        exact ⟨_, by rw [HALL.out]; rfl, by rw [HALL.out]; exact own_mono HOWN.out (by omega), hbw⟩
  · have e0 : (seasonL l.length x y gr != 0) = true := by simpa using hs
    have hall : placeAll l x y gr = ([], seasonL l.length x y gr) := by unfold placeAll; rw [if_neg hs]
    have HALL := Lib.hid hall
    clear hs hall
    go_enter Try.func12, Try.ntmps12
    go_wp2_with (go_at_call 23; refine (season_f _ _ _ _ _ _ _ (hg.to (cur_new _ _)) hgl).mono ?_; rintro e w1 ⟨rfl, hb1⟩)
    go_ret2
    exact ⟨_, by rw [HALL.out]; rfl, by rw [HALL.out]; exact World.ownsRow_nil _ _ _ _, cur_step0 hb1⟩
end Go.Proofs.Ythoocjcbpjdjhaa
