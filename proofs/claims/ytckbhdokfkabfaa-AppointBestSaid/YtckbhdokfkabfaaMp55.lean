/-
  Chapter 55: maps of the call's own, keyed by numbers, whose values are taken as they stand.
-/
import Derived.Test.YtckbhdokfkabfaaChz55
import Derived.Test.YtckbhdokfkabfaaLib55
set_option linter.unusedSimpArgs false
set_option linter.unusedVariables false
namespace Go.Proofs.Ytckbhdokfkabfaa
open Go.RowKit
set_option maxRecDepth 100000
set_option maxHeartbeats 4000000
def heldV (v : Value) : Option (DataW (List Value) × List MemPlace) := some (.held [v], [])
theorem heldV_inv {v u : Value} {ps : List MemPlace} (h : heldV v = some (.held [u], ps)) : v = u := by
  unfold heldV at h
  injection h with h
  injection h with h _
  injection h with h
  injection h with h
/-- Block b is a map of at most n entries, from numbers (of type k) to values; z where there is none. -/
def MpV (w : World) (k : TypeId) (b n : Nat) (z : Value) (f : Int → Value) : Prop := ∃ D : DataW (List Value), w.ownsMap Try.prog k heldV b n D ∧ Maps.IsMap D ∧ ∀ x : Int, D.atKey (.int .i64 x) (.held [z]) = .held [f x]
theorem MpV.made (w : World) (k : TypeId) (z : Value) : MpV (w.alloc (.map #[] 0)) k w.heap.size 0 z (fun _ => z) := ⟨.map [], World.ownsMap_made w _ _ _, Maps.isMap_empty, fun _ => rfl⟩
theorem MpV.lt {w : World} {k : TypeId} {b n : Nat} {z : Value} {f : Int → Value} (h : MpV w k b n z f) : b < w.heap.size := by
  obtain ⟨D, h1, _⟩ := h
  exact h1.lt
theorem MpV.far {w w' : World} {k : TypeId} {b n : Nat} {z : Value} {f : Int → Value} {bs : List Nat} (h : MpV w k b n z f) (hf : Far bs w w') (hn : b ∉ bs) : MpV w' k b n z f := by
  have hl := h.lt
  obtain ⟨D, ⟨es, clock, h1, h2, h3, h4⟩, h5⟩ := h
  exact ⟨D, ⟨es, clock, (hf.block b hl hn).trans h1, h2, h3, h4⟩, h5⟩
theorem MpV.to {w w' : World} {k : TypeId} {b n : Nat} {z : Value} {f : Int → Value} (h : MpV w k b n z f) (hb : Below w.heap.size w w') : MpV w' k b n z f := h.far (Far.of (bs := []) hb) (by simp)
theorem MpV.ne {w : World} {k : TypeId} {b n g e : Nat} {z : Value} {f : Int → Value} {cs : Array Value} {fr : Nat × Nat} (h : MpV w k b n z f) (hg : w.heap[g]? = some (.cells cs e fr)) : g ≠ b := by
  rintro rfl
  obtain ⟨D, ⟨es, clock, h1, _⟩, _⟩ := h
  rw [hg] at h1
  cases h1
theorem MpV.neOwn {w : World} {k : TypeId} {b n base e size m c q : Nat} {A : Option Addr} {z : Value} {f : Int → Value} {xs : List Value} (h : MpV w k b n z f) (ho : w.ownsRow base e size (.slice A m c) q xs) : ∀ g ∈ adB A, g ≠ b := by
  intro g hg
  rcases ho.2 with ⟨hv, _⟩ | ⟨g', cap, cur, hv, _, hh, _⟩
  · injection hv with hv; subst hv; simp [adB] at hg
  · injection hv with hv
    subst hv
    simp [adB] at hg
    subst hg
    exact h.ne hh
theorem Try.zDy (w : World) : (zeroValue 22).run Try.prog w = .ok (.slice none 0 0) w := by kernel_rfl
theorem Try.zPr (w : World) : (zeroValue 65).run Try.prog w = .ok (.agg #[.int .i64 0, .int .i64 0]) w := by kernel_rfl
theorem MpV.lookD {w : World} {b n : Nat} {f : Int → Value} (h : MpV w 2 b n (.slice none 0 0) f) {x : Int} (hx : (Lit.int .i64 x).wf = true) :
    Sem.run Try.prog (Instr.lookup 58 (.map (some b)) (.int .i64 x) false) w = .ok (f x) w := by
  obtain ⟨D, h1, _, h3⟩ := h
  obtain ⟨v, ps, hrun, hv⟩ := h1.lookup (Maps.int_keyed Try.underlying2) Try.underlying58 (z := .slice none 0 0) (Try.zDy w) (zd := .held [.slice none 0 0]) (zp := []) rfl (Maps.keyOf_int_mk Try.underlying2 hx)
  rw [h3 x] at hv
  rw [heldV_inv hv] at hrun
  exact hrun
theorem MpV.lookP {w : World} {b n : Nat} {f : Int → Value} (h : MpV w 3 b n (.agg #[.int .i64 0, .int .i64 0]) f) {x : Int} (hx : (Lit.int .i64 x).wf = true) :
    Sem.run Try.prog (Instr.lookup 64 (.map (some b)) (.int .i64 x) false) w = .ok (f x) w := by
  obtain ⟨D, h1, _, h3⟩ := h
  obtain ⟨v, ps, hrun, hv⟩ := h1.lookup (Maps.int_keyed Try.underlying3) Try.underlying64 (z := .agg #[.int .i64 0, .int .i64 0]) (Try.zPr w) (zd := .held [.agg #[.int .i64 0, .int .i64 0]]) (zp := []) rfl (Maps.keyOf_int_mk Try.underlying3 hx)
  rw [h3 x] at hv
  rw [heldV_inv hv] at hrun
  exact hrun
def putI (f : Int → Value) (x : Int) (v : Value) : Int → Value := fun i => if i = x then v else f i
theorem step_put {t e k : TypeId} (kd : Maps.Keyed Try.prog k) (ht : Try.prog.underlying t = some (.map k e)) (hk : ∀ x, (Lit.int .i64 x).wf = true → keyOf Try.prog k (.int .i64 x) = some (.int .i64 x)) (w : World) {ops : Array Oper} {o : Oper} {a : Act} {K : Act → World → Prop} {Q : Exit → Act → World → Prop} {X : Prop} (hgd : o.guard = none) (m y v : Operand) (hop : o.op = Op.mapUpdate t m y v) (b n : Nat) (z : Value) (f : Int → Value) (x : Int) (u : Value)
    (hm : a.eval m = .map (some b)) (hy : a.eval y = .int .i64 x) (hv : a.eval v = u) (h : MpV w k b n z f) (hn : n < maxLen) (hx : (Lit.int .i64 x).wf = true)
    (hK : ∀ w', MpV w' k b (n + 1) z (putI f x u) → w.grownBy w' (some b) → K (a.put o.dst undef) w') :
    if Region.wanted o (yielded ops a.tmps) = true then Oper.wp Try.prog o a w K Q else X := by
  have hw : Region.wanted o (yielded ops a.tmps) = true := by simp [Region.wanted, hgd]
  rw [if_pos hw]
  obtain ⟨D, h1, h2, h3⟩ := h
  obtain ⟨w', hrun, r1, r2⟩ := h1.update (d := .held [u]) (ps := []) kd ht hn (hk x hx) (val := u) rfl
  unfold Oper.wp
  simp [execOp, hop, hm, hy, hv, hrun, Result.andThen]
  refine hK w' ⟨_, r1, h2.put _ _, fun i => ?_⟩ r2
  by_cases e : i = x
  · subst e
    rw [Maps.atKey_put_same h2 (by first | exact trivial | exact .inl ⟨_, _, rfl⟩ | simp [WideAt.IsKeyLit])]
    simp [putI]
  · rw [Maps.atKey_put_other (by intro h; injection h with _ h; exact e h), h3 i]
    show _ = DataW.held [putI f x u i]
    unfold putI
    rw [if_neg e]
end Go.Proofs.Ytckbhdokfkabfaa
