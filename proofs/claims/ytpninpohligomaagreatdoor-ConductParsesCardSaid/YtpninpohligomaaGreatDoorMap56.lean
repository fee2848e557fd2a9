/-
  Chapter 56: a set of numbers as a map of the call's own.
-/
import Derived.Test.YtpninpohligomaaGreatDoorPts56
import Derived.Maps.OwnOps
import Derived.Maps.Views
set_option linter.unusedSimpArgs false
set_option linter.unusedVariables false
namespace Go.Proofs.YtpninpohligomaaGreatDoor
open Go.RowKit

def IdsM (w : World) (b n : Nat) (ids : List Int) : Prop := ∃ D : DataW Unit, w.ownsMap Tryz.prog 2 (plainElem Tryz.prog 4) b n D ∧ Maps.IsMap D ∧ ∀ k : Int, D.atKey (.int .i64 k) (.lit (.bool false)) = .lit (.bool (ids.any fun y => y == k))
theorem IdsM.made (w : World) : IdsM (w.alloc (.map #[] 0)) w.heap.size 0 [] := ⟨.map [], World.ownsMap_made w _ _ _, Maps.isMap_empty, fun _ => rfl⟩
theorem IdsM.lt {w : World} {b n : Nat} {ids : List Int} (h : IdsM w b n ids) : b < w.heap.size := by
  obtain ⟨D, h1, _⟩ := h
  exact h1.lt
theorem IdsM.to {w w' : World} {b n : Nat} {ids : List Int} (h : IdsM w b n ids) (hb : Below w.heap.size w w') : IdsM w' b n ids := by
  have hl := h.lt
  obtain ⟨D, ⟨es, clock, h1, h2, h3, h4⟩, h5⟩ := h
  exact ⟨D, ⟨es, clock, (hb.block b hl).trans h1, h2, h3, h4⟩, h5⟩
theorem bool_inv {P : Program} {e : TypeId} {v : Value} {x : Bool} {ps : List MemPlace} (he : P.underlying e = some .bool) (h : plainElem (H := Unit) P e v = some (.lit (.bool x), ps)) : v = .bool x := by
  unfold plainElem at h
  rw [he] at h
  cases v <;> simp at h
  rw [h.1]
theorem IdsM.lookup {w : World} {b n : Nat} {ids : List Int} (h : IdsM w b n ids) {x : Int} (hx : (Lit.int .i64 x).wf = true) :
    Sem.run Tryz.prog (Instr.lookup 94 (.map (some b)) (.int .i64 x) false) w = .ok (.bool (ids.any fun y => y == x)) w := by
  obtain ⟨D, h1, _, h3⟩ := h
  obtain ⟨v, ps, hrun, hv⟩ := h1.lookup (Maps.int_keyed Tryz.underlying2) Tryz.underlying94 (z := .bool false) (by kernel_rfl) (plainElem_bool Tryz.underlying4 false) (Maps.keyOf_int_mk Tryz.underlying2 hx)
  rw [h3 x] at hv
  rw [bool_inv Tryz.underlying4 hv] at hrun
  exact hrun
theorem wpList_idsPut {w : World} {ops : Array Oper} {rest : List Oper} {o : Oper} {a : Act} {Q : Exit → Act → World → Prop} (hgd : o.guard = none) (m k v : Operand) (hop : o.op = Op.mapUpdate 94 m k v) (b n : Nat) (ids : List Int) (x : Int)
    (hm : a.eval m = .map (some b)) (hk : a.eval k = .int .i64 x) (hv : a.eval v = .bool true) (h : IdsM w b n ids) (hn : n < maxLen) (hx : (Lit.int .i64 x).wf = true)
    (hK : ∀ w', IdsM w' b (n + 1) (ids ++ [x]) → w.grownBy w' (some b) → wpList Tryz.prog ops Q rest (a.put o.dst undef) w') : wpList Tryz.prog ops Q (o :: rest) a w := by
  obtain ⟨D, h1, h2, h3⟩ := h
  refine wpList_mapUpdate_own w hgd m k v 94 hop 2 4 (Maps.int_keyed Tryz.underlying2) Tryz.underlying94 _ b n D hm h1 hn _ _ (.int .i64 x) hk hv (Maps.keyOf_int_mk Tryz.underlying2 hx) (.lit (.bool true)) [] (plainElem_bool Tryz.underlying4 true) ?_
  intro w' hw' hg
  refine hK w' ⟨_, hw', h2.put _ _, fun y => ?_⟩ hg
  by_cases e : y = x
  · subst e
    rw [Maps.atKey_put_same h2 (by first | exact trivial | exact .inl ⟨_, _, rfl⟩ | simp [WideAt.IsKeyLit])]
    simp
  · rw [Maps.atKey_put_other (by intro h; injection h with _ h; exact e h), h3 y]
    simp [List.any_append, Ne.symm e]
end Go.Proofs.YtpninpohligomaaGreatDoor
