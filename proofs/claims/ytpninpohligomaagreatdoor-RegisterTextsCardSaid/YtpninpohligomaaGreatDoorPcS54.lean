/-
  Chapter 54: Parse of the program: what the boxes hold between two rounds.
-/
import Derived.Test.YtpninpohligomaaGreatDoorOwn3
import Derived.Test.YtpninpohligomaaGreatDoorRfBox
import Derived.Test.YtpninpohligomaaGreatDoorWins54
import Derived.RangeFuncNested
import Derived.RangeFuncCalls
import Derived.RangeFuncLeaves
set_option linter.unusedSimpArgs false
set_option linter.unusedVariables false
namespace Go.Proofs.YtpninpohligomaaGreatDoor
open Go.RowKit
set_option maxRecDepth 100000
set_option maxHeartbeats 1000000
def rowsP (pre : List Ln) : List (List UInt8) := pre.map fun x => trimL (lnB x)
/-- Between two rounds: the six boxes. -/
structure PdS (w : World) (pre : List Ln) (W : World) : Prop where
  below : Below w.heap.size w W
  r0 : Boxed W w.heap.size 35 (.slice none 0 0)
  r1 : Boxed W (w.heap.size + 1) 36 (.slice none 0 0)
  r2 : Boxed W (w.heap.size + 2) 25 (.int .i64 0)
  bx : ∃ u, Boxed W (w.heap.size + 5) 9 u
  out : ∃ vw ws vl ls, Boxed W (w.heap.size + 3) 35 vw ∧ OwnL wnE 2 48 w.heap.size W vw ws ∧ Boxed W (w.heap.size + 4) 36 vl ∧ OwnL trE 3 51 w.heap.size W vl ls ∧ rowsT (rowsP pre) = some (ws, ls)
/-- Behind a bad row. -/
structure PdX (w : World) (pre : List Ln) (W : World) : Prop where
  below : Below w.heap.size w W
  r0 : Boxed W w.heap.size 35 (.slice none 0 0)
  r1 : Boxed W (w.heap.size + 1) 36 (.slice none 0 0)
  r2 : Boxed W (w.heap.size + 2) 25 (.int .i64 4)
  bad : rowsT (rowsP pre) = none
theorem boxed_ne {X : World} {row : Option Nat} {B : Nat} (hr : ∀ r, row = some r → B ≤ r ∧ ∃ o : Obj, X.heap[r]? = some o ∧ o.isCells = false) {b : Nat} {t : TypeId} {v : Value} (h : Boxed X b t v) : some b ≠ row := fun e => by
  obtain ⟨_, o, ho, hc⟩ := hr _ e.symm
  rw [show X.heap[b]? = _ from h] at ho
  cases ho; cases hc
theorem own_ne {X : World} {row : Option Nat} {B : Nat} (hr : ∀ r, row = some r → B ≤ r ∧ ∃ o : Obj, X.heap[r]? = some o ∧ o.isCells = false) {α : Type} {enc : α → List Value} {size e base : Nat} {v : Value} {l : List α} (h : OwnL enc size e base X v l) {Y : World} (hg : X.grownBy Y row) : OwnL enc size e base Y v l := by
  refine World.ownsRow.kept h hg ?_
  rcases h.2 with ⟨rfl, _⟩ | ⟨g, cap, cur, rfl, _, hgb, _⟩
  · exact .inl rfl
  · refine .inr fun e' => ?_
    obtain ⟨_, o, ho, hc⟩ := hr g (by simpa [Value.ownBlock] using e'.symm)
    rw [hgb] at ho; cases ho; cases hc
theorem PdS.from (w : World) {B : Nat} (hB : w.heap.size ≤ B) : OwnFrom B (PdS w) := fun s X Y row hs hg hr => by
  obtain ⟨vw, ws, vl, ls, h1, h2, h3, h4, h5⟩ := hs.out
  obtain ⟨u, h6⟩ := hs.bx
  exact ⟨hs.below.grown hg hs.below.size (fun k e => Nat.le_trans hB (hr k e).1), hs.r0.kept hg (boxed_ne hr hs.r0), hs.r1.kept hg (boxed_ne hr hs.r1), hs.r2.kept hg (boxed_ne hr hs.r2), ⟨u, h6.kept hg (boxed_ne hr h6)⟩,
    vw, ws, vl, ls, h1.kept hg (boxed_ne hr h1), own_ne hr h2 hg, h3.kept hg (boxed_ne hr h3), own_ne hr h4 hg, h5⟩
theorem PdX.from (w : World) {B : Nat} (hB : w.heap.size ≤ B) : OwnFrom B (PdX w) := fun s X Y row hs hg hr =>
  ⟨hs.below.grown hg hs.below.size (fun k e => Nat.le_trans hB (hr k e).1), hs.r0.kept hg (boxed_ne hr hs.r0), hs.r1.kept hg (boxed_ne hr hs.r1), hs.r2.kept hg (boxed_ne hr hs.r2), hs.bad⟩
theorem own_set {α : Type} {enc : α → List Value} {size e base : Nat} {W : World} {v : Value} {l : List α} (h : OwnL enc size e base W v l) {b : Nat} {t : TypeId} {u : Value} (hb : Boxed W b t u) (hte : t ≠ e) (u' : Value) : OwnL enc size e base (W.setCell ⟨b, 0, none⟩ u') v l :=
  World.ownsRow.kept h (grownBy_setCell' W _ u') (.inr (hb.not_row hte h).symm)
theorem PdS.set {w : World} (s : List Ln) (W : World) (u : Value) (hs : PdS w s W) : PdS w s (W.setCell ⟨w.heap.size + 5, 0, none⟩ u) := by
  obtain ⟨vw, ws, vl, ls, h1, h2, h3, h4, h5⟩ := hs.out
  obtain ⟨u', h6⟩ := hs.bx
  exact ⟨hs.below.setCell (p := ⟨w.heap.size + 5, 0, none⟩) (by show w.heap.size ≤ w.heap.size + 5; omega) u, hs.r0.other (by omega) u, hs.r1.other (by omega) u, hs.r2.other (by omega) u, ⟨u, h6.set u⟩, vw, ws, vl, ls, h1.other (by omega) u, own_set h2 h6 (by decide) u, h3.other (by omega) u, own_set h4 h6 (by decide) u, h5⟩
theorem PdX.set {w : World} (s : List Ln) (W : World) (u : Value) (hs : PdX w s W) : PdX w s (W.setCell ⟨w.heap.size + 5, 0, none⟩ u) :=
  ⟨hs.below.setCell (p := ⟨w.heap.size + 5, 0, none⟩) (by show w.heap.size ≤ w.heap.size + 5; omega) u, hs.r0.other (by omega) u, hs.r1.other (by omega) u, hs.r2.other (by omega) u, hs.bad⟩
theorem boxed_to {W W' : World} {b : Nat} {t : TypeId} {v : Value} (h : Boxed W b t v) (hb : Below W.heap.size W W') : Boxed W' b t v := (hb.block b h.lt).trans h
theorem keepsO_below {W W' : World} (h : Below W.heap.size W W') : KeepsOthers W W' := ⟨h.size, fun k o hk _ => (h.block k (Array.getElem?_eq_some_iff.1 hk).1).trans hk⟩
theorem rowsP_snoc (pre : List Ln) (x : Ln) : rowsP (pre ++ [x]) = rowsP pre ++ [trimL (lnB x)] := by unfold rowsP; rw [List.map_append]; rfl
theorem pd_bad {w W W5 : World} {pre : List Ln} {x : Ln} (hs : PdS w pre W) (h5 : Below W.heap.size W W5) (hz : itemT (splitC 32 (trimL (lnB x))) = none) (B : Nat) :
    KeepsFrom B W (((W5.setCell ⟨w.heap.size, 0, none⟩ (.slice none 0 0)).setCell ⟨w.heap.size + 1, 0, none⟩ (.slice none 0 0)).setCell ⟨w.heap.size + 2, 0, none⟩ (.int .i64 4)) ∧ PdX w (pre ++ [x]) (((W5.setCell ⟨w.heap.size, 0, none⟩ (.slice none 0 0)).setCell ⟨w.heap.size + 1, 0, none⟩ (.slice none 0 0)).setCell ⟨w.heap.size + 2, 0, none⟩ (.int .i64 4)) := by
  refine ⟨((((keepsO_below h5).trans (KeepsOthers.setCell _ _ _)).trans (KeepsOthers.setCell _ _ _)).trans (KeepsOthers.setCell _ _ _)).from B, ?_, ?_, ?_, ?_, ?_⟩
  · exact (((hs.below.trans (h5.mono hs.below.size)).setCell (p := ⟨w.heap.size, 0, none⟩) (Nat.le_refl _) _).setCell (p := ⟨w.heap.size + 1, 0, none⟩) (Nat.le_succ _) _).setCell (p := ⟨w.heap.size + 2, 0, none⟩) (by show w.heap.size ≤ w.heap.size + 2; omega) _
  · exact (((boxed_to hs.r0 h5).set _).other (by omega) _).other (by omega) _
  · exact (((boxed_to hs.r1 h5).other (by omega) _).set _).other (by omega) _
  · exact (((boxed_to hs.r2 h5).other (by omega) _).other (by omega) _).set _
  · rw [rowsP_snoc]; exact rowsT_bad1 hz
section
variable {w W W5 w1 : World} {pre : List Ln} {x : Ln} {Aw Al : Option Addr} {cw cl g cap : Nat} {ws : List Wn} {ls : List Tr} {tmp : Obj}
theorem pd_win {z : Wn} (hs : PdS w pre W) (h5 : Below W.heap.size W W5) (hv : Boxed W (w.heap.size + 3) 35 (.slice Aw ws.length cw)) (how : OwnL wnE 2 48 w.heap.size W (.slice Aw ws.length cw) ws)
    (hv2 : Boxed W (w.heap.size + 4) 36 (.slice Al ls.length cl)) (hol : OwnL trE 3 51 w.heap.size W (.slice Al ls.length cl) ls) (hrows : rowsT (rowsP pre) = some (ws, ls))
    (hz : itemT (splitC 32 (trimL (lnB x))) = some (.inl z)) (ha : App (W5.alloc tmp) w1 w.heap.size 48 2 (.slice Aw ws.length cw) g cap ws.length 1 (ws.flatMap wnE) (wnE z)) (B : Nat) :
    Boxed w1 (w.heap.size + 3) 35 (.slice Aw ws.length cw) ∧ KeepsFrom B W (w1.setCell ⟨w.heap.size + 3, 0, none⟩ (.slice (some ⟨g, 0, none⟩) (ws.length + 1) cap)) ∧ (w1.setCell ⟨w.heap.size + 3, 0, none⟩ (.slice (some ⟨g, 0, none⟩) (ws.length + 1) cap)).heap[w.heap.size + 5]? = W.heap[w.heap.size + 5]? ∧
      PdS w (pre ++ [x]) (w1.setCell ⟨w.heap.size + 3, 0, none⟩ (.slice (some ⟨g, 0, none⟩) (ws.length + 1) cap)) := by
  obtain ⟨u, hu⟩ := hs.bx
  have hv5 := boxed_to hv h5
  have ho5 : OwnL wnE 2 48 w.heap.size W5 (.slice Aw ws.length cw) ws := own_below how h5 (Nat.le_refl _)
  have hl5 : OwnL trE 3 51 w.heap.size W5 (.slice Al ls.length cl) ls := own_below hol h5 (Nat.le_refl _)
  have hb5 : w.heap.size ≤ W5.heap.size := Nat.le_trans hs.below.size h5.size
  obtain ⟨k1, k2, k3, k4, k5⟩ := Boxed.appended hv5 (by decide) ho5 hb5 (by omega) ha.own ha.grown
  have far : ∀ {b : Nat} {t : TypeId} {u : Value}, Boxed W b t u → t ≠ 48 → b ≠ w.heap.size + 3 → Boxed (w1.setCell ⟨w.heap.size + 3, 0, none⟩ (.slice (some ⟨g, 0, none⟩) (ws.length + 1) cap)) b t u := fun {b t u} h ht hne =>
    (((boxed_to h h5).alloc tmp).kept ha.grown ((boxed_to h h5).not_row ht ho5)).other hne _
  have hu6 := far hu (by decide) (by omega)
  have hl6 : OwnL trE 3 51 w.heap.size w1 (.slice Al ls.length cl) ls := own_apart (own_below hl5 (cur_new _ tmp) (Nat.le_refl _)) (own_below ho5 (cur_new _ tmp) (Nat.le_refl _)) (by decide) ha.grown
  refine ⟨k1, ((keepsO_below h5).trans k4).from B, by rw [show _ = _ from hu6, show W.heap[w.heap.size + 5]? = _ from hu], ?_, far hs.r0 (by decide) (by omega), far hs.r1 (by decide) (by omega), far hs.r2 (by decide) (by omega), ⟨u, hu6⟩, _, ws ++ [z], _, ls, k2, own_snoc k3, far hv2 (by decide) (by omega), own_set hl6 k1 (by decide) _, ?_⟩
  · exact (hs.below.trans (h5.mono hs.below.size)).trans k5
  · rw [rowsP_snoc]; exact rowsT_win hrows hz
theorem pd_tr {z : Tr} (hs : PdS w pre W) (h5 : Below W.heap.size W W5) (hv : Boxed W (w.heap.size + 3) 35 (.slice Aw ws.length cw)) (how : OwnL wnE 2 48 w.heap.size W (.slice Aw ws.length cw) ws)
    (hv2 : Boxed W (w.heap.size + 4) 36 (.slice Al ls.length cl)) (hol : OwnL trE 3 51 w.heap.size W (.slice Al ls.length cl) ls) (hrows : rowsT (rowsP pre) = some (ws, ls))
    (hz : itemT (splitC 32 (trimL (lnB x))) = some (.inr z)) (ha : App (W5.alloc tmp) w1 w.heap.size 51 3 (.slice Al ls.length cl) g cap ls.length 1 (ls.flatMap trE) (trE z)) (B : Nat) :
    Boxed w1 (w.heap.size + 4) 36 (.slice Al ls.length cl) ∧ KeepsFrom B W (w1.setCell ⟨w.heap.size + 4, 0, none⟩ (.slice (some ⟨g, 0, none⟩) (ls.length + 1) cap)) ∧ (w1.setCell ⟨w.heap.size + 4, 0, none⟩ (.slice (some ⟨g, 0, none⟩) (ls.length + 1) cap)).heap[w.heap.size + 5]? = W.heap[w.heap.size + 5]? ∧
      PdS w (pre ++ [x]) (w1.setCell ⟨w.heap.size + 4, 0, none⟩ (.slice (some ⟨g, 0, none⟩) (ls.length + 1) cap)) := by
  obtain ⟨u, hu⟩ := hs.bx
  have hv5 := boxed_to hv2 h5
  have ho5 : OwnL trE 3 51 w.heap.size W5 (.slice Al ls.length cl) ls := own_below hol h5 (Nat.le_refl _)
  have hl5 : OwnL wnE 2 48 w.heap.size W5 (.slice Aw ws.length cw) ws := own_below how h5 (Nat.le_refl _)
  have hb5 : w.heap.size ≤ W5.heap.size := Nat.le_trans hs.below.size h5.size
  obtain ⟨k1, k2, k3, k4, k5⟩ := Boxed.appended hv5 (by decide) ho5 hb5 (by omega) ha.own ha.grown
  have far : ∀ {b : Nat} {t : TypeId} {u : Value}, Boxed W b t u → t ≠ 51 → b ≠ w.heap.size + 4 → Boxed (w1.setCell ⟨w.heap.size + 4, 0, none⟩ (.slice (some ⟨g, 0, none⟩) (ls.length + 1) cap)) b t u := fun {b t u} h ht hne =>
    (((boxed_to h h5).alloc tmp).kept ha.grown ((boxed_to h h5).not_row ht ho5)).other hne _
  have hu6 := far hu (by decide) (by omega)
  have hl6 : OwnL wnE 2 48 w.heap.size w1 (.slice Aw ws.length cw) ws := own_apart (own_below hl5 (cur_new _ tmp) (Nat.le_refl _)) (own_below ho5 (cur_new _ tmp) (Nat.le_refl _)) (by decide) ha.grown
  refine ⟨k1, ((keepsO_below h5).trans k4).from B, by rw [show _ = _ from hu6, show W.heap[w.heap.size + 5]? = _ from hu], ?_, far hs.r0 (by decide) (by omega), far hs.r1 (by decide) (by omega), far hs.r2 (by decide) (by omega), ⟨u, hu6⟩, _, ws, _, ls ++ [z], far hv (by decide) (by omega), own_set hl6 k1 (by decide) _, k2, own_snoc k3, ?_⟩
  · exact (hs.below.trans (h5.mono hs.below.size)).trans k5
  · rw [rowsP_snoc]; exact rowsT_tr hrows hz
end
/-! The end. -/
theorem loadVar_wn {w : World} {b : Nat} {v : Value} (h : w.cell? ⟨b, 0, none⟩ = some v) : (loadVar 35 ⟨b, 0, none⟩).run Tryz.prog w = .ok v w := by
  go_simp
theorem loadVar_tr {w : World} {b : Nat} {v : Value} (h : w.cell? ⟨b, 0, none⟩ = some v) : (loadVar 36 ⟨b, 0, none⟩).run Tryz.prog w = .ok v w := by
  go_simp
theorem loadVar_err {w : World} {b : Nat} {v : Value} (h : w.cell? ⟨b, 0, none⟩ = some v) : (loadVar 25 ⟨b, 0, none⟩).run Tryz.prog w = .ok v w := by
  go_simp
theorem results_cell3 {P : Program} {fn : Func} {a b c : Tmp} {t u s : TypeId} (h : fn.results = #[.cell a t, .cell b u, .cell c s]) {tmps : Array Value} {w : World} {p q r : Addr} {x y z : Value}
    (ha : tmps.getD a undef = .pointer (some p)) (hb : tmps.getD b undef = .pointer (some q)) (hc : tmps.getD c undef = .pointer (some r)) (hx : (loadVar t p).run P w = .ok x w) (hy : (loadVar u q).run P w = .ok y w) (hz : (loadVar s r).run P w = .ok z w) : (results fn tmps).run P w = .ok (.tuple #[x, y, z]) w := by
  rw [Array.getD_eq_getD_getElem?] at ha hb hc
  simp [results, h, asAddr, ha, hb, hc, Sem.run_bind, hx, hy, hz, Result.andThen]
theorem boxed_put {W : World} {D b : Nat} {t : TypeId} {v : Value} {o : Obj} (o' : Obj) (h : Boxed W b t v) (hK : W.heap[D]? = some o) (ho : o.isCells = false) : Boxed (W.putObj D o') b t v :=
  h.kept (grownBy_putObj' W D o') (fun e => by
    injection e with e
    subst e
    rw [show W.heap[b]? = _ from h] at hK
    cases hK
    cases ho)
theorem pd_end {w WF : World} {tmps : Array Value} {v1 v2 : Value} {e : Int} {ws : List Wn} {ls : List Tr} {R : List (List UInt8)} {s : List UInt8} (h2 : tmps.getD 2 undef = .pointer (some ⟨w.heap.size, 0, none⟩)) (h3 : tmps.getD 3 undef = .pointer (some ⟨w.heap.size + 1, 0, none⟩)) (h4 : tmps.getD 4 undef = .pointer (some ⟨w.heap.size + 2, 0, none⟩))
    (b0 : Boxed WF w.heap.size 35 v1) (b1 : Boxed WF (w.heap.size + 1) 36 v2) (b2 : Boxed WF (w.heap.size + 2) 25 (.int .i64 e)) (hb : Below w.heap.size w WF) (ho : OwnL wnE 2 48 w.heap.size WF v1 ws) (ho2 : OwnL trE 3 51 w.heap.size WF v2 ls) (hP : ParT R s = (ws, ls, e)) :
    LeavesInM Fence.wide 5 Tryz.prog Tryz.f19 tmps (fun e w' => ∃ v1 v2, e = .returned (.tuple #[v1, v2, .int .i64 (ParT R s).2.2]) ∧ OwnL wnE 2 48 w.heap.size w' v1 (ParT R s).1 ∧ OwnL trE 3 51 w.heap.size w' v2 (ParT R s).2.1 ∧ Below w.heap.size w w') [] .returning WF :=
  ⟨_, results_cell3 rfl h2 h3 h4 (loadVar_wn b0.cell) (loadVar_tr b1.cell) (loadVar_err b2.cell), v1, v2, by rw [hP], by rw [hP]; exact ho, by rw [hP]; exact ho2, hb⟩
/-- Three stores into the results' boxes, and the end. -/
theorem pd_fin {w w2 : World} {D : Nat} {tmps : Array Value} {v1 v2 u u' u'' : Value} {e : Int} {ws : List Wn} {ls : List Tr} {R : List (List UInt8)} {s : List UInt8} (h2 : tmps.getD 2 undef = .pointer (some ⟨w.heap.size, 0, none⟩)) (h3 : tmps.getD 3 undef = .pointer (some ⟨w.heap.size + 1, 0, none⟩)) (h4 : tmps.getD 4 undef = .pointer (some ⟨w.heap.size + 2, 0, none⟩))
    (hb : Below w.heap.size w w2) (b0 : Boxed w2 w.heap.size 35 u) (b1 : Boxed w2 (w.heap.size + 1) 36 u') (b2 : Boxed w2 (w.heap.size + 2) 25 u'') (hK : w2.heap[D]? = some (.deferred (some []))) (hD : w.heap.size ≤ D) (ho : OwnL wnE 2 48 w.heap.size w2 v1 ws) (ho2 : OwnL trE 3 51 w.heap.size w2 v2 ls) (hP : ParT R s = (ws, ls, e)) :
    LeavesInM Fence.wide 5 Tryz.prog Tryz.f19 tmps (fun e w' => ∃ v1 v2, e = .returned (.tuple #[v1, v2, .int .i64 (ParT R s).2.2]) ∧ OwnL wnE 2 48 w.heap.size w' v1 (ParT R s).1 ∧ OwnL trE 3 51 w.heap.size w' v2 (ParT R s).2.1 ∧ Below w.heap.size w w') [] .returning
      ((((w2.setCell ⟨w.heap.size, 0, none⟩ v1).setCell ⟨w.heap.size + 1, 0, none⟩ v2).setCell ⟨w.heap.size + 2, 0, none⟩ (.int .i64 e)).putObj D (.deferred none)) := by
  have hb6 := ((hb.setCell (p := ⟨w.heap.size, 0, none⟩) (Nat.le_refl _) v1).setCell (p := ⟨w.heap.size + 1, 0, none⟩) (Nat.le_succ _) v2).setCell (p := ⟨w.heap.size + 2, 0, none⟩) (by show w.heap.size ≤ w.heap.size + 2; omega) (.int .i64 e)
  have hK6 := (((KeepsOthers.setCell w2 ⟨w.heap.size, 0, none⟩ v1).trans (KeepsOthers.setCell _ ⟨w.heap.size + 1, 0, none⟩ v2)).trans (KeepsOthers.setCell _ ⟨w.heap.size + 2, 0, none⟩ (.int .i64 e))).same D _ hK rfl
  have a1 : Boxed (w2.setCell ⟨w.heap.size, 0, none⟩ v1) (w.heap.size + 1) 36 u' := b1.other (by omega) _
  have a2 : Boxed ((w2.setCell ⟨w.heap.size, 0, none⟩ v1).setCell ⟨w.heap.size + 1, 0, none⟩ v2) (w.heap.size + 2) 25 u'' := (b2.other (by omega) _).other (by omega) _
  have o1 := own_set (own_set (own_set ho b0 (by decide) v1) a1 (by decide) v2) a2 (by decide) (.int .i64 e)
  have o2 := own_set (own_set (own_set ho2 b0 (by decide) v1) a1 (by decide) v2) a2 (by decide) (.int .i64 e)
  exact pd_end h2 h3 h4 (boxed_put _ (((b0.set v1).other (by omega) _).other (by omega) _) hK6 rfl) (boxed_put _ ((a1.set v2).other (by omega) _) hK6 rfl) (boxed_put _ (a2.set _) hK6 rfl) (hb6.grown (grownBy_putObj' _ D _) hb6.size (fun k e => by cases e; exact hD)) (ownsRow_putObj o1 _ hK6 rfl) (ownsRow_putObj o2 _ hK6 rfl) hP
end Go.Proofs.YtpninpohligomaaGreatDoor
