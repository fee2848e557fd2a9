/-
  A whole struct out of a block of the call's own, and into it, in one step.
-/
import Derived.Test.YtdbiihfoafoljaaGreatDoorBlk
import Derived.Laws.Tables
import Derived.Deep.WholeRow
set_option linter.unusedSimpArgs false
set_option linter.unusedVariables false
namespace Go.Proofs.YtdbiihfoafoljaaGreatDoor
open Go.RowKit

theorem blk_row {w : World} {g : Nat} {e : TypeId} {xs : List Value} (h : Blk w g e xs) (ys : Array Value) : Blk (w.setRow g ys) g e ys.toList := by
  unfold Blk
  rw [setRow_heap w g _ ys e (0, 0) h]
theorem heap_row_other (w : World) (g k : Nat) (cs : Array Value) (h : k ≠ g) : (w.setRow g cs).heap[k]? = w.heap[k]? := by
  simp only [World.setRow, Array.getElem?_modify]
  rw [if_neg (fun e => h e.symm)]
theorem row_size (w : World) (g : Nat) (cs : Array Value) : (w.setRow g cs).heap.size = w.heap.size := by simp [World.setRow]
theorem row_below {w : World} {B g : Nat} {a : World} (h : Below B a w) (hg : B ≤ g) (cs : Array Value) : Below B a (w.setRow g cs) :=
  h.trans ⟨rfl, rfl, rfl, by simp [World.setRow], fun k hk => heap_row_other w g k cs (by omega)⟩
theorem Blk.row_other {w : World} {g g' : Nat} {e : TypeId} {xs : List Value} (h : Blk w g e xs) (hne : g ≠ g') (cs : Array Value) : Blk (w.setRow g' cs) g e xs := by
  unfold Blk
  rw [heap_row_other w g' g cs hne]
  exact h
section
variable {P : Program} {w : World} {ops : Array Oper} {rest : List Oper} {o : Oper} {a : Act} {Q : Exit → Act → World → Prop}
theorem wpList_loadC (hgd : o.guard = none) (p : Operand) (t : TypeId) (hop : o.op = Op.load t p) (g : Nat) (e : TypeId) (xs : List Value) (d : TypeDesc) (hu : P.underlying t = some d) (hd : (match d with | .struct _ | .array _ _ => true | _ => false) = true)
    (hi : (P.info? t).map (·.size) = some xs.length) (hp : a.eval p = .pointer (some ⟨g, 0, none⟩)) (hb : Blk w g e xs) (h : wpList P ops Q rest (a.put o.dst (.agg xs.toArray)) w) : wpList P ops Q (o :: rest) a w := by
  refine wpList_plain hgd fun _ hK => ?_
  unfold Oper.wp
  have := run_loadVar_row (P := P) w g e t xs.toArray (0, 0) d hb hu hd (by simpa using hi)
  simp only [execOp, hop, hp, Instr.loadAt, Instr.sureAddr, Sem.run_bind, Sem.run_pure, Result.andThen_ok, this]
  exact hK _ _ h
theorem wpList_storeC (hgd : o.guard = none) (p x : Operand) (t : TypeId) (hop : o.op = Op.store t p x) (g : Nat) (e : TypeId) (xs : List Value) (ys : Array Value)
    (hi : (P.info? t).map (·.size) = some ys.size) (hp : a.eval p = .pointer (some ⟨g, 0, none⟩)) (hx : a.eval x = .agg ys) (hb : Blk w g e xs) (hl : xs.length = ys.size) (h1 : ys.all (·.oneCell') = true)
    (h : wpList P ops Q rest (a.put o.dst undef) (w.setRow g ys)) : wpList P ops Q (o :: rest) a w := by
  refine wpList_plain hgd fun _ hK => ?_
  unfold Oper.wp
  have := run_storeVar_row (P := P) w g e t xs.toArray ys hb hi (by simpa using hl) h1
  simp only [execOp, hop, hp, hx, Instr.storeAt, Instr.sureAddr, Sem.run_bind, Sem.run_pure, Result.andThen_ok, this]
  exact hK _ _ h
theorem wpList_load_g (hw : Region.wanted o (yielded ops a.tmps) = true) (t : TypeId) (p : Operand) (hop : o.op = Op.load t p) (g : Nat) (hp : a.eval p = .pointer (some ⟨g, 0, none⟩)) (e : TypeId) (cs : Array Value) (fr : Nat × Nat) (d : TypeDesc) (hg : w.heap[g]? = some (.cells cs e fr))
    (hu : P.underlying t = some d) (hd : (match d with | .struct _ | .array _ _ => true | _ => false) = true) (hi : (P.info? t).map (·.size) = some cs.size) (h : wpList P ops Q rest (a.put o.dst (.agg cs)) w) : wpList P ops Q (o :: rest) a w :=
  wpList_step fun K hK => by
    rw [if_pos hw]
    exact wp_load_row t p hop g hp e cs fr d hg hu hd hi (hK _ _ h)
theorem step_loadC {K : Act → World → Prop} {X : Prop} (hgd : o.guard = none) (t : TypeId) (p : Operand) (hop : o.op = Op.load t p) (g : Nat) (hp : a.eval p = .pointer (some ⟨g, 0, none⟩)) (e : TypeId) (cs : Array Value) (fr : Nat × Nat) (d : TypeDesc) (hg : w.heap[g]? = some (.cells cs e fr))
    (hu : P.underlying t = some d) (hd : (match d with | .struct _ | .array _ _ => true | _ => false) = true) (hi : (P.info? t).map (·.size) = some cs.size) (h : K (a.put o.dst (.agg cs)) w) : if Region.wanted o (yielded ops a.tmps) = true then Oper.wp P o a w K Q else X := by
  have hw : Region.wanted o (yielded ops a.tmps) = true := by simp [Region.wanted, hgd]
  rw [if_pos hw]
  exact wp_load_row t p hop g hp e cs fr d hg hu hd hi h
theorem step_storeC {K : Act → World → Prop} {X : Prop} (hgd : o.guard = none) (p x : Operand) (t : TypeId) (hop : o.op = Op.store t p x) (g : Nat) (e : TypeId) (xs : List Value) (ys : Array Value)
    (hi : (P.info? t).map (·.size) = some ys.size) (hp : a.eval p = .pointer (some ⟨g, 0, none⟩)) (hx : a.eval x = .agg ys) (hb : Blk w g e xs) (hl : xs.length = ys.size) (h1 : ys.all (·.oneCell') = true)
    (h : K (a.put o.dst undef) (w.setRow g ys)) : if Region.wanted o (yielded ops a.tmps) = true then Oper.wp P o a w K Q else X := by
  have hw : Region.wanted o (yielded ops a.tmps) = true := by simp [Region.wanted, hgd]
  rw [if_pos hw]
  unfold Oper.wp
  have := run_storeVar_row (P := P) w g e t xs.toArray ys hb hi (by simpa using hl) h1
  simp only [execOp, hop, hp, hx, Instr.storeAt, Instr.sureAddr, Sem.run_bind, Sem.run_pure, Result.andThen_ok, this]
  exact h
/-- A whole struct into the block that was made last. -/
theorem wpList_storeNew (hgd : o.guard = none) (p x : Operand) (t : TypeId) (hop : o.op = Op.store t p x) (c : Array Value) (ys : Array Value)
    (hi : (P.info? t).map (·.size) = some ys.size) (hp : a.eval p = .pointer (some ⟨w.heap.size, 0, none⟩)) (hx : a.eval x = .agg ys) (hl : c.size = ys.size) (h1 : ys.all (·.oneCell') = true)
    (h : wpList P ops Q rest (a.put o.dst undef) (w.alloc (.cells ys t))) : wpList P ops Q (o :: rest) a (w.alloc (.cells c t)) := by
  refine wpList_storeC (w := w.alloc (.cells c t)) hgd p x t hop w.heap.size t c.toList ys hi hp hx (heap_alloc_new w _) (by simpa using hl) h1 ?_
  rw [World.setRow_alloc_new]
  exact h
end
theorem own_range {w : World} {base e size n : Nat} {v : Value} {xs : List Value} (h : w.ownsRow base e size v n xs) : ∀ k, v.ownBlock = some k → base ≤ k ∧ k < w.heap.size := by
  intro k hk
  rcases h.2 with ⟨rfl, _⟩ | ⟨g, cap, cur, rfl, hb, hg, _⟩
  · cases hk
  · injection hk with hk
    subst hk
    exact ⟨hb, (Array.getElem?_eq_some_iff.1 hg).1⟩
theorem own_keep {w w' : World} {base e size n : Nat} {v : Value} {xs : List Value} (h : w.ownsRow base e size v n xs) (hk : ∀ k, v.ownBlock = some k → w'.heap[k]? = w.heap[k]?) : w'.ownsRow base e size v n xs := by
  refine ⟨h.1, ?_⟩
  rcases h.2 with h2 | ⟨g, cap, cur, rfl, hb, hg, r⟩
  · exact .inl h2
  · exact .inr ⟨g, cap, cur, rfl, hb, by rw [hk g rfl]; exact hg, r⟩
theorem own_other {w : World} {base e size n g : Nat} {v : Value} {xs : List Value} (h : w.ownsRow base e size v n xs) (hne : ∀ k, v.ownBlock = some k → k ≠ g) (j : Nat) (u : Value) : (w.setCell ⟨g, j, none⟩ u).ownsRow base e size v n xs :=
  own_keep h fun k hk => heap_setCell_other w ⟨g, j, none⟩ k u (hne k hk)
theorem own_row {w : World} {base e size n g : Nat} {v : Value} {xs : List Value} (h : w.ownsRow base e size v n xs) (hne : ∀ k, v.ownBlock = some k → k ≠ g) (cs : Array Value) : (w.setRow g cs).ownsRow base e size v n xs :=
  own_keep h fun k hk => heap_row_other w g k cs (hne k hk)
theorem ret_cell {P : Program} {fn : Func} {R : Ending → World → Prop} {a : Act} {w : World} {p : Tmp} {ty : TypeId} {g : Nat} {e : TypeId} {xs : List Value} {d : TypeDesc} (h : fn.results = #[.cell p ty])
    (hp : a.tmps.getD p undef = .pointer (some ⟨g, 0, none⟩)) (hg : Blk w g e xs) (hu : P.underlying ty = some d) (hd : (match d with | .struct _ | .array _ _ => true | _ => false) = true) (hi : (P.info? ty).map (·.size) = some xs.length)
    (hdf : a.defers = []) (hR : R (.returned (.agg xs.toArray)) w) : bodyPost P fn R .ret a w :=
  ⟨hdf, _, results_cell_row h a.tmps w g e xs.toArray (0, 0) d hp hg hu hd (by simpa using hi), hR⟩
theorem ret_cell2 {P : Program} {fn : Func} {R : Ending → World → Prop} {a : Act} {w : World} {p q : Tmp} {ty : TypeId} {g : Nat} {e : TypeId} {xs : List Value} {d : TypeDesc} {u : Value} (h : fn.results = #[.cell p ty, .tmp q])
    (hp : a.tmps.getD p undef = .pointer (some ⟨g, 0, none⟩)) (hq : a.tmps.getD q undef = u) (hg : Blk w g e xs) (hu : P.underlying ty = some d) (hd : (match d with | .struct _ | .array _ _ => true | _ => false) = true) (hi : (P.info? ty).map (·.size) = some xs.length)
    (hdf : a.defers = []) (hR : R (.returned (.tuple #[.agg xs.toArray, u])) w) : bodyPost P fn R .ret a w := by
  refine ⟨hdf, _, ?_, hR⟩
  have hl := run_loadVar_row (P := P) w g e ty xs.toArray (0, 0) d hg hu hd (by simpa using hi)
  have hp' : a.tmps[p]?.getD undef = .pointer (some ⟨g, 0, none⟩) := by simpa using hp
  have hq' : a.tmps[q]?.getD undef = u := by simpa using hq
  simp [results, h, hp', hq', asAddr, hl]
theorem run_loadCells_blk {P : Program} {w : World} {g n : Nat} {e : TypeId} {xs : List Value} (hb : Blk w g e xs) (hn : xs.length = n) : Sem.run P (loadCellsFrom ⟨g, 0, none⟩ 0 n #[]) w = .ok xs.toArray w := by
  subst hn
  have := run_loadCells_list (P := P) w ⟨g, 0, none⟩ xs (fun j v hv => by
    have hadd : (⟨g, 0, none⟩ : Addr).add j = ⟨g, j, none⟩ := by unfold Addr.add; split <;> simp_all
    rw [hadd, hb.cell]
    exact hv)
  simpa [loadCells] using this
theorem run_storeCells_blk {P : Program} {w : World} {g : Nat} {e : TypeId} {xs ys : List Value} (t : TypeId) (hb : Blk w g e xs) (hi : (P.info? t).map (·.size) = some ys.length) (hl : xs.length = ys.length) (h1 : ys.toArray.all (·.oneCell') = true) :
    Sem.run P (storeCells ⟨g, 0, none⟩ ys) w = .ok () (w.setRow g ys.toArray) := by
  have := run_storeVar_row (P := P) w g e t xs.toArray ys.toArray hb (by simpa using hi) (by simpa using hl) h1
  cases hq : P.info? t with
  | none => simp [hq] at hi
  | some i =>
    have hs : ys.length = i.size := by simp [hq] at hi; omega
    simpa [storeVar, sizeOf, typeInfo, hq, Value.cells, hs] using this
end Go.Proofs.YtdbiihfoafoljaaGreatDoor
