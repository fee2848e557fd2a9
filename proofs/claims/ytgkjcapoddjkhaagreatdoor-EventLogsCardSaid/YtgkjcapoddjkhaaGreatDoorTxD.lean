/-
  Chapter 3: the lines of a source, read by the program.
-/
import Derived.Test.YtgkjcapoddjkhaaGreatDoorTxC
import Derived.Test.YtgkjcapoddjkhaaGreatDoorNumE
import Derived.Test.YtgkjcapoddjkhaaGreatDoorStr
set_option linter.unusedSimpArgs false
set_option linter.unusedVariables false
namespace Go.Proofs.YtgkjcapoddjkhaaGreatDoor
open Go.RowKit
set_option maxRecDepth 100000
set_option maxHeartbeats 4000000
/-- Two rows of the call's own beside one another: lines and diagnostics. -/
structure SpS (b1 : Nat) (wr : World) (A : Option Addr) (c : Nat) (rs : List Lr) (B : Option Addr) (cb : Nat) (dl : List Dg) : Prop where
  tab : TabL wr b1 (.slice A rs.length c) rs
  dg : OwnL dgE 3 50 b1 wr (.slice B dl.length cb) dl
  f1 : ∀ k, (Value.slice B dl.length cb).ownBlock = some k → (Value.slice A rs.length c).ownBlock ≠ some k
  f2 : ∀ r ∈ rs, (Value.slice B dl.length cb).ownBlock ≠ some r.g
  nil : dl = [] → B = none ∧ cb = 0
theorem SpS.to {b1 : Nat} {wr w1 : World} {A : Option Addr} {c : Nat} {rs : List Lr} {B : Option Addr} {cb : Nat} {dl : List Dg} (h : SpS b1 wr A c rs B cb dl) (hb : Below wr.heap.size wr w1) : SpS b1 w1 A c rs B cb dl :=
  ⟨h.tab.to hb, own_below h.dg hb (Nat.le_refl _), h.f1, h.f2, h.nil⟩
theorem SpS.start (b1 : Nat) (w : World) : SpS b1 w none 0 [] none 0 [] := ⟨TabL.nil _ _, World.ownsRow_nil _ _ _ _, (fun k h => by cases h), by simp, fun _ => ⟨rfl, rfl⟩⟩
theorem ownb_len (A : Option Addr) (n m c : Nat) : (Value.slice A n c).ownBlock = (Value.slice A m c).ownBlock := by cases A <;> rfl
theorem SpS.line {b1 : Nat} {wr w0 w1 : World} {A : Option Addr} {c : Nat} {rs : List Lr} {B : Option Addr} {cb : Nat} {dl : List Dg} {r : Lr} {g cap : Nat} (h : SpS b1 wr A c rs B cb dl) (hb : Below wr.heap.size wr w0) (hr : OwnL flE 3 101 b1 w0 (lrV r) r.fs) (hg : wr.heap.size ≤ r.g)
    (ha : App w0 w1 b1 97 2 (.slice A rs.length c) g cap rs.length 1 (rs.flatMap lrE) (lrE r)) : SpS b1 w1 (some ⟨g, 0, none⟩) cap (rs ++ [r]) B cb dl := by
  have h0 := h.to hb
  have hbs := hb.size
  have hd : ∀ k, (Value.slice B dl.length cb).ownBlock = some k → k < wr.heap.size := fun k hk => (own_block_lt h.dg hk).2
  have ht := h.tab.app hb hr hg ha
  refine ⟨by rw [List.length_append]; exact ht, own_keep h0.dg (fun k hk => ha.grown.block k (by have := hd k hk; omega) (fun e => h.f1 k hk e.symm)), fun k hk e => ?_, fun x hx e => ?_, h.nil⟩
  · have e : g = k := by injection e
    rcases ha.at_ with h1 | h1
    · exact h.f1 k hk (by rw [h1, e])
    · have := hd k hk; omega
  · rcases List.mem_append.1 hx with hx | hx
    · exact h.f2 x hx e
    · simp at hx
      subst hx
      have := hd _ e
      omega
theorem SpS.diag {b1 : Nat} {wr w0 w1 : World} {A : Option Addr} {c : Nat} {rs : List Lr} {B : Option Addr} {cb : Nat} {dl : List Dg} {d : Dg} {g cap : Nat} (h : SpS b1 wr A c rs B cb dl) (hb : Below wr.heap.size wr w0)
    (ha : App w0 w1 b1 50 3 (.slice B dl.length cb) g cap dl.length 1 (dl.flatMap dgE) (dgE d)) : SpS b1 w1 A c rs (some ⟨g, 0, none⟩) cap (dl ++ [d]) := by
  have h0 := h.to hb
  have hbs := hb.size
  have hA : ∀ k, (Value.slice A rs.length c).ownBlock = some k → k < wr.heap.size := fun k hk => (own_block_lt h.tab.own hk).2
  have hR : ∀ r ∈ rs, r.g < wr.heap.size := fun r hr => (own_blk (h.tab.rows r hr)).2
  have ho := ha.one rfl
  refine ⟨⟨own_keep h0.tab.own (fun k hk => ha.grown.block k (by have := hA k hk; omega) (fun e => h.f1 k e.symm hk)), fun r hr => own_same (h0.tab.rows r hr) (ha.grown.block _ (by have := hR r hr; omega) (fun e => h.f2 r hr e.symm)), h.tab.far⟩, by rw [List.length_append]; exact ho, fun k hk e => ?_, fun r hr e => ?_, fun e => by simp at e⟩
  · have hk : g = k := by injection hk
    rcases ha.at_ with h1 | h1
    · exact h.f1 k (by rw [h1, hk]) e
    · have := hA k e; omega
  · have e : g = r.g := by injection e
    rcases ha.at_ with h1 | h1
    · exact h.f2 r hr (by rw [h1, e])
    · have := hR r hr; omega
theorem sA_list (l : List UInt8) : (sA l).data.toList = l := rfl
theorem splitC_len (c : UInt8) : ∀ l : List UInt8, (splitC c l).length ≤ l.length + 1
  | [] => by simp [splitC]
  | x :: l => by
    have ih := splitC_len c l
    unfold splitC
    split
    · simp; omega
    · split <;> (first | (simp; done) | (simp at *; omega) | (simp [*] at ih ⊢; omega))
theorem splitP_le {l : List UInt8} (h : l.length ≤ 262144) : splitP l = splF 0 ([], []) (splitC 10 l) := by unfold splitP; rw [if_neg (by omega)]
def SpR (L : List (List UInt8)) (w2 : World) (ov dv iv : Value) (wr : World) : Prop := ∃ (k : Nat) (rs : List Lr) (A : Option Addr) (c : Nat) (dl : List Dg) (B : Option Addr) (cb : Nat), k ≤ L.length ∧ iv = .int .i64 k ∧ ov = .slice A rs.length c ∧ dv = .slice B dl.length cb ∧ rs.length ≤ k ∧ dl.length ≤ k ∧
  SpS w2.heap.size wr A c rs B cb dl ∧ splF 0 ([], []) (L.take k) = (rs.map Lr.lin, dl) ∧ Below w2.heap.size w2 wr
theorem split3_p (l : List UInt8) (hl : l.length ≤ 1000000) (w : World) (hw : LibW w) : Calls Tryz.prog 49 #[.string (sA l)] w fun e w' => ∃ A c rs B cb, e = .returned (.tuple #[.slice A rs.length c, .slice B (splitP l).2.length cb]) ∧ SpS w.heap.size w' A c rs B cb (splitP l).2 ∧ rs.map Lr.lin = (splitP l).1 ∧ Below w.heap.size w w' := by
  obtain ⟨m, hm⟩ := hw.maxlen
  obtain ⟨s, hs⟩ : ∃ s, sA l = s := ⟨_, rfl⟩
  have hsz : s.size = l.length := by rw [← hs, sA_sz]
  by_cases hbig : 262144 < l.length
  · have HF := Lib.hid (show splitP l = ([], [⟨1, 1, 9⟩]) by unfold splitP; rw [if_pos hbig])
    rw [hs]
    clear hs
    go_enter Tryz.func49, Tryz.ntmps49
    have g1 : decide (262144 < (s.size : Int)) = true := by simp; omega
    go_wp2_with (fail)
    go_ret2
    rw [HF.out]
    exact ⟨none, 0, [], some ⟨w.heap.size, 0, none⟩, 1, rfl, ⟨TabL.nil _ _, World.ownsRow_lit w (dgE ⟨1, 1, 9⟩).toArray 1 (Nat.le_refl _) (by decide) rfl, (fun k h e => by cases e), by simp, fun e => by simp at e⟩, rfl, cur_new _ _⟩
  obtain ⟨L, hL⟩ : ∃ L, splitC 10 l = L := ⟨_, rfl⟩
  have HF := Lib.hid (show splitP l = splF 0 ([], []) L by rw [← hL]; exact splitP_le (by omega))
  have hN : Lib.countB s ⟨#[10]⟩ + 1 = L.length := by rw [← splS_len, ← hs, sA_list, ← hL]; unfold splS; rw [List.length_map]
  have hLl : L.length ≤ 262145 := by have := splitC_len 10 l; rw [hL] at this; omega
  obtain ⟨P, hP⟩ : ∃ P, splitP l = P := ⟨_, rfl⟩
  rw [hP] at HF ⊢
  have HS := Lib.hid hs
  have HL := Lib.hid hL
  have HN := Lib.hid hN
  rw [hs]
  clear hs hL hN hP
  have g1 : decide (262144 < (s.size : Int)) = false := by simp; omega
  go_enter Tryz.func49, Tryz.ntmps49
  go_wp2_with (fail)
  refine (Tryz.split_p s ⟨#[10]⟩ m w (by omega) hm (by decide)).mono ?_
  rintro e w2 ⟨rfl, hw2⟩
  rw [HN.out]
  have hb2 : Below w.heap.size w w2 := by rw [hw2]; exact cur_new _ _
  have hcell : ∀ k x, L[k]? = some x → w2.cell? ⟨w.heap.size, k, none⟩ = some (.string (sA x)) := fun k x hx => by
    rw [hw2, splS_map, ← HS.out, sA_list, (Blk.new w _ _).cell k]
    unfold splS
    rw [HL.out]
    simp [hx, sA]
  have hlt : w.heap.size < w2.heap.size := by rw [hw2]; simp
  have HB2 := Lib.hid hb2
  have HC := Lib.hid hcell
  clear hw2 hb2 hcell hm
  obtain ⟨b, hbb⟩ : ∃ b, w.heap.size = b := ⟨_, rfl⟩
  have HBB := Lib.hid hbb
  rw [hbb] at hlt HC ⊢
  clear hbb
  go_wp2_with (fail)
  go_loopw [4, 5, 19] (SpR L w2) (fun _ _ i _ => L.length - (intOf i).toNat)
  case atStart => exact ⟨0, [], none, 0, [], none, 0, by omega, rfl, rfl, rfl, by simp, by simp, SpS.start _ _, rfl, Below.refl _ _⟩
  case round =>
    obtain ⟨k, rs, A, c, dl, B, cb, hk, rfl, rfl, rfl, hrl, hdl, hS, hsp, hb⟩ := hrel
    have HSP := Lib.hid hS
    have HB := Lib.hid hb
    clear hS hb
    by_cases hkN : k = L.length
    · have HX := Lib.hid (show P = (rs.map Lr.lin, dl) by rw [HF.out, ← hsp, hkN, List.take_length])
      have g2 : decide ((k : Int) < (L.length : Int)) = false := by simp; omega
      have g3 : ¬ k < L.length := by omega
      clear hsp hkN
      go_wp2_with (fail)
      go_ret2
      rw [HX.out]
      have HSf := HSP.out
      have hbw : w.heap.size ≤ w2.heap.size := by have := HB2.out.size; omega
      refine ⟨A, c, rs, B, cb, rfl, ?_, rfl, cur_step1 HB2.out HB.out⟩
      exact ⟨HSf.tab.mono hbw, own_mono HSf.dg hbw, HSf.f1, HSf.f2, HSf.nil⟩
    · have hk1 : k < L.length := by omega
      obtain ⟨x, hx⟩ : ∃ x, L[k]? = some x := ⟨_, List.getElem?_eq_getElem hk1⟩
      have HNX := Lib.hid (show splF 0 ([], []) (L.take (k + 1)) = splStep (rs.map Lr.lin, dl) k x by rw [List.take_add_one, hx]; show splF 0 ([], []) (L.take k ++ [x]) = _; rw [splF_snoc, hsp, List.length_take, Nat.min_eq_left hk]; congr 1; omega)
      obtain ⟨sx, hsx⟩ : ∃ y, sA x = y := ⟨_, rfl⟩
      have d1 : wr.cell? ⟨b, k, none⟩ = some (.string sx) := by rw [← hsx]; exact (HB.out.cell (p := ⟨b, k, none⟩) hlt).trans (HC.out k x hx)
      have hsxl : sx.size = x.length := by rw [← hsx, sA_sz]
      have g2 : decide ((k : Int) < (L.length : Int)) = true := by simp; omega
      have HSX := Lib.hid hsx
      clear hsp hkN hx hsx
      by_cases h1000 : x.length ≤ 1000
      · have g3 : decide ((x.length : Int) ≤ 1000) = true := by simp; omega
        have HLI := Lib.hid (show linP x = ((fieldsP x).1, (fieldsP x).2, 4) by unfold linP; rw [if_pos h1000])
        go_wp2_with (fail)
        have hcall := fields_p x (by omega) wr
        rw [HSX.out] at hcall
        refine hcall.mono ?_
        clear hcall
        rintro e w3 ⟨fv, rfl, hfo, hb3⟩
        obtain ⟨F, hF⟩ : ∃ F, fieldsP x = F := ⟨_, rfl⟩
        rw [hF] at hfo HLI ⊢
        clear hF
        obtain ⟨fl, col⟩ := F
        dsimp only at hfo HLI ⊢
        have HFO := Lib.hid hfo
        have HB3 := Lib.hid hb3
        have hf2 : ∃ A2 c2, fv = .slice A2 fl.length c2 := own_form hfo
        obtain ⟨A2, c2, rfl⟩ := hf2
        clear hfo hb3 d1
        by_cases hcol : 0 < col
        · have g4 : decide (0 < col) = true := by simpa using hcol
          by_cases hd50 : dl.length < 50
          · have g5 : decide ((dl.length : Int) < 50) = true := by simp; omega
            go_wp2_with (at_builtin; refine wpList_app1 Tryz.dgElem _ rfl (.tmp 40) (.tmp 46) rfl w2.heap.size B cb dl rfl ?o1 (⟨(k : Int) + 1, col, 4⟩ : Dg) w3.heap.size 1 rfl ?o2 ?o3 ?o4 ?o5 ?_)
            case o1 => exact World.ownsRow.alloc (HSP.out.to HB3.out).dg _
            case o2 => first | exact heap_alloc_new _ _ | exact (Array.getElem?_eq_some_iff.1 (heap_alloc_new _ _)).2
            case o3 => unfold maxLen; omega
            case o4 => omega
            case o5 => first | (have := (cur_step1 HB.out HB3.out).size; omega) | (have := (cur_step1 HB.out HB3.out).size; simp; omega)
            intro g cap w6 ha
            have hb6 := (app1_end (cur_step1 HB.out HB3.out) (own_base (HSP.out.to HB3.out).dg) (cur_new _ _) ha).1
            have hs6 := (HSP.out.to HB3.out).diag (cur_new _ _) ha
            have HB6 := Lib.hid hb6
            have HS6 := Lib.hid hs6
            clear ha hb6 hs6
            go_wp2_with (fail)
            exact ⟨⟨k + 1, rs, A, c, dl ++ [(⟨(k : Int) + 1, col, 4⟩ : Dg)], some ⟨g, 0, none⟩, cap, by omega, rfl, rfl, by simp, by omega, by simp; omega, HS6.out, by rw [HNX.out]; unfold splStep; rw [HLI.out]; dsimp only; rw [if_pos ⟨hcol, hd50⟩], HB6.out⟩, by show L.length - (k + 1) < L.length - k; omega⟩
          · have g5 : decide ((dl.length : Int) < 50) = false := by simp; omega
            have g6 : (col == 0) = false := by simp; omega
            go_wp2_with (fail)
            exact ⟨⟨k + 1, rs, A, c, dl, B, cb, by omega, rfl, rfl, rfl, by omega, by omega, HSP.out.to HB3.out, by rw [HNX.out]; unfold splStep; rw [HLI.out]; dsimp only; rw [if_neg (by omega), if_neg (by omega)], cur_step1 HB.out HB3.out⟩, by show L.length - (k + 1) < L.length - k; omega⟩
        · have g4 : decide (0 < col) = false := by simp; omega
          by_cases hc0 : col = 0
          · by_cases hfl : fl = []
            · subst hfl
              subst hc0
              go_wp2_with (fail)
              exact ⟨⟨k + 1, rs, A, c, dl, B, cb, by omega, rfl, rfl, rfl, by omega, by omega, HSP.out.to HB3.out, by rw [HNX.out]; unfold splStep; rw [HLI.out]; dsimp only; rw [if_neg (by simp), if_neg (by simp)], cur_step1 HB.out HB3.out⟩, by show L.length - (k + 1) < L.length - k; omega⟩
            · have hfl0 : 0 < fl.length := List.length_pos_iff.2 hfl
              have g7 : decide (0 < (fl.length : Int)) = true := by simp; exact hfl0
              obtain ⟨gf, cf, hgf⟩ := own_fl HFO.out hfl
              injection hgf with hgf1 _ hgf3
              subst hgf1
              subst hgf3
              subst hc0
              go_wp2_with (at_builtin; refine wpList_app1 Tryz.lrElem _ rfl (.tmp 56) (.tmp 61) rfl w2.heap.size A c rs rfl ?o1 (⟨(k : Int) + 1, gf, c2, fl⟩ : Lr) w3.heap.size 1 rfl ?o2 ?o3 ?o4 ?o5 ?_)
              case o1 => exact World.ownsRow.alloc (HSP.out.to HB3.out).tab.own _
              case o2 => first | exact heap_alloc_new _ _ | exact (Array.getElem?_eq_some_iff.1 (heap_alloc_new _ _)).2
              case o3 => unfold maxLen; omega
              case o4 => omega
              case o5 => first | (have := (cur_step1 HB.out HB3.out).size; omega) | (have := (cur_step1 HB.out HB3.out).size; simp; omega)
              intro g cap w6 ha
              have hb6 := (app1_end (cur_step1 HB.out HB3.out) (own_base HSP.out.tab.own) (cur_new _ _) ha).1
              have hs6 := HSP.out.line (r := ⟨(k : Int) + 1, gf, c2, fl⟩) (cur_step1 HB3.out (cur_new _ _)) (World.ownsRow.alloc (own_mono HFO.out HB.out.size) _) (own_blk HFO.out).1 ha
              have HB6 := Lib.hid hb6
              have HS6 := Lib.hid hs6
              clear ha hb6 hs6
              go_wp2_with (fail)
              exact ⟨⟨k + 1, rs ++ [⟨(k : Int) + 1, gf, c2, fl⟩], some ⟨g, 0, none⟩, cap, dl, B, cb, by omega, rfl, by simp, rfl, by simp; omega, by omega, HS6.out, by rw [HNX.out]; unfold splStep; rw [HLI.out]; dsimp only; rw [if_neg (by simp), if_pos ⟨rfl, hfl0⟩, List.map_append]; rfl, HB6.out⟩, by show L.length - (k + 1) < L.length - k; omega⟩
          · have g6 : (col == 0) = false := by simpa using hc0
            go_wp2_with (fail)
            exact ⟨⟨k + 1, rs, A, c, dl, B, cb, by omega, rfl, rfl, rfl, by omega, by omega, HSP.out.to HB3.out, by rw [HNX.out]; unfold splStep; rw [HLI.out]; dsimp only; rw [if_neg (fun q => hcol q.1), if_neg (fun q => hc0 q.1)], cur_step1 HB.out HB3.out⟩, by show L.length - (k + 1) < L.length - k; omega⟩
      · have g3 : decide ((x.length : Int) ≤ 1000) = false := by simp; omega
        have HLI := Lib.hid (show linP x = ([], 1001, 9) by unfold linP; rw [if_neg h1000])
        by_cases hd50 : dl.length < 50
        · have g5 : decide ((dl.length : Int) < 50) = true := by simp; omega
          go_wp2_with (at_builtin; refine wpList_app1 Tryz.dgElem _ rfl (.tmp 40) (.tmp 46) rfl w2.heap.size B cb dl rfl ?o1 (⟨(k : Int) + 1, 1001, 9⟩ : Dg) wr.heap.size 1 rfl ?o2 ?o3 ?o4 ?o5 ?_)
          case o1 => exact World.ownsRow.alloc (HSP.out).dg _
          case o2 => first | exact heap_alloc_new _ _ | exact (Array.getElem?_eq_some_iff.1 (heap_alloc_new _ _)).2
          case o3 => unfold maxLen; omega
          case o4 => omega
          case o5 => first | (have := (HB.out).size; omega) | (have := (HB.out).size; simp; omega)
          intro g cap w6 ha
          have hb6 := (app1_end (HB.out) (own_base (HSP.out).dg) (cur_new _ _) ha).1
          have hs6 := (HSP.out).diag (cur_new _ _) ha
          have HB6 := Lib.hid hb6
          have HS6 := Lib.hid hs6
          clear ha hb6 hs6
          go_wp2_with (fail)
          exact ⟨⟨k + 1, rs, A, c, dl ++ [(⟨(k : Int) + 1, 1001, 9⟩ : Dg)], some ⟨g, 0, none⟩, cap, by omega, rfl, rfl, by simp, by omega, by simp; omega, HS6.out, by rw [HNX.out]; unfold splStep; rw [HLI.out]; dsimp only; rw [if_pos ⟨by decide, hd50⟩], HB6.out⟩, by show L.length - (k + 1) < L.length - k; omega⟩
        · have g5 : decide ((dl.length : Int) < 50) = false := by simp; omega
          go_wp2_with (fail)
          exact ⟨⟨k + 1, rs, A, c, dl, B, cb, by omega, rfl, rfl, rfl, by omega, by omega, HSP.out, by rw [HNX.out]; unfold splStep; rw [HLI.out]; dsimp only; rw [if_neg (by omega), if_neg (by simp)], HB.out⟩, by show L.length - (k + 1) < L.length - k; omega⟩
end Go.Proofs.YtgkjcapoddjkhaaGreatDoor
