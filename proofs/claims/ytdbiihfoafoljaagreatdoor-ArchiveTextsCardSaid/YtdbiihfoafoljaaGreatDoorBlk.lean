/-
  A block of the call's own, known cell by cell: what 'make' and 'var a [n]T' give. Cells as a function of the place.
-/
import Derived.Test.YtdbiihfoafoljaaGreatDoorBase
set_option linter.unusedSimpArgs false
set_option linter.unusedVariables false
namespace Go.Proofs.YtdbiihfoafoljaaGreatDoor
open Go.RowKit

/-- Block g holds the cells xs, of type e. -/
def Blk (w : World) (g : Nat) (e : TypeId) (xs : List Value) : Prop := w.heap[g]? = some (.cells xs.toArray e (0, 0))
section
variable {w w' : World} {g g' j B : Nat} {e : TypeId} {xs : List Value} {u : Value}
theorem Blk.lt (h : Blk w g e xs) : g < w.heap.size := (Array.getElem?_eq_some_iff.1 h).1
theorem Blk.cell (h : Blk w g e xs) (j : Nat) : w.cell? ⟨g, j, none⟩ = xs[j]? := by rw [cell_of_row w g j _ e (0, 0) h]; simp
theorem Blk.frozen (h : Blk w g e xs) (j : Nat) : w.frozen? ⟨g, j, none⟩ = false := frozen_of_row w g j _ e h
theorem Blk.set (h : Blk w g e xs) (j : Nat) (u : Value) : Blk (w.setCell ⟨g, j, none⟩ u) g e (xs.set j u) := by
  unfold Blk
  rw [heap_setCell_same w g j _ e u h]
  simp
theorem Blk.other (h : Blk w g e xs) (hne : g ≠ g') (j : Nat) (u : Value) : Blk (w.setCell ⟨g', j, none⟩ u) g e xs := by
  unfold Blk
  rw [heap_setCell_other w ⟨g', j, none⟩ g u hne]
  exact h
theorem Blk.below (h : Blk w g e xs) (hb : Below B w w') (hg : g < B) : Blk w' g e xs := by
  unfold Blk
  rw [hb.block g hg]
  exact h
theorem Blk.to (h : Blk w g e xs) (hb : Below w.heap.size w w') : Blk w' g e xs := h.below hb h.lt
theorem Blk.new (w : World) (e : TypeId) (xs : List Value) : Blk (w.alloc (.cells xs.toArray e)) w.heap.size e xs := heap_alloc_new w _
theorem Blk.drewN (h : Blk w g e xs) (n : Nat) : Blk (w.drewN n) g e xs := h
theorem Keep.set {W : World} {cs : List (Nat × Nat × Value)} (h : Keep W w cs) (hg : W.heap.size ≤ g) (hne : ∀ c ∈ cs, c.1 ≠ g) (j : Nat) (u : Value) : Keep W (w.setCell ⟨g, j, none⟩ u) cs :=
  ⟨h.1.setCell (p := ⟨g, j, none⟩) hg u, fun c hc => ⟨by simpa using (h.2 c hc).1, by
    rw [World.cell?_of_block (a := ⟨c.1, c.2.1, none⟩) (heap_setCell_other w ⟨g, j, none⟩ c.1 u (hne c hc))]
    exact (h.2 c hc).2⟩⟩
theorem below_set {W : World} (h : Below B W w) (hg : B ≤ g) (j : Nat) (u : Value) : Below B W (w.setCell ⟨g, j, none⟩ u) := h.setCell (p := ⟨g, j, none⟩) hg u
end

/-- The N cells f 0, .., f (N-1). -/
def fn (N : Nat) (f : Nat → Value) : List Value := (List.range N).map f
theorem fn_length (N : Nat) (f : Nat → Value) : (fn N f).length = N := by unfold fn; simp
theorem fn_at {N t : Nat} {f : Nat → Value} (h : t < N) : (fn N f)[t]? = some (f t) := by unfold fn; simp [h]
theorem fn_eq {N : Nat} {f f' : Nat → Value} (h : ∀ t, t < N → f t = f' t) : fn N f = fn N f' := by
  unfold fn
  exact List.map_congr_left fun t ht => h t (List.mem_range.1 ht)
theorem fn_set {N j : Nat} {f f' : Nat → Value} {u : Value} (h : ∀ t, t < N → f' t = if t = j then u else f t) : (fn N f).set j u = fn N f' := by
  apply List.ext_getElem?
  intro t
  rw [List.getElem?_set, fn_length]
  by_cases ht : t < N
  · rw [fn_at ht, fn_at ht, h t ht]
    by_cases e : j = t
    · subst e; simp [ht]
    · rw [if_neg e, if_neg (fun h => e h.symm)]
  · have hl : ∀ f : Nat → Value, (fn N f)[t]? = none := by intro f; rw [List.getElem?_eq_none_iff, fn_length]; omega
    rw [hl, hl]
    by_cases e : j = t <;> simp [e, ht]
theorem fn_rep (N : Nat) (z : Value) : List.replicate N z = fn N (fun _ => z) := by
  apply List.ext_getElem?
  intro t
  by_cases ht : t < N
  · rw [fn_at ht]; simp [ht]
  · rw [List.getElem?_eq_none (by simp; omega), List.getElem?_eq_none (by rw [fn_length]; omega)]

theorem blk_of_row {w : World} {base g n : Nat} {e : TypeId} {xs : List Value} (h : w.ownsRow base e 1 (.slice (some ⟨g, 0, none⟩) n n) n xs) : Blk w g e xs := by
  rcases h.2 with ⟨h', _⟩ | ⟨g', cap', cur, h', _, hg2, _, _, hsz, htake⟩
  · simp at h'
  · injection h' with h1 h2 h3
    injection h1 with h1
    injection h1 with h1 _ _
    subst h1 h3
    unfold Blk
    rw [hg2, ← htake, List.take_of_length_le (by rw [Array.length_toList, hsz]; exact Nat.le_refl _)]
/-- 'make([]T, n)', T of one cell: a block of n zeros. -/
theorem wpList_makeN {P : Program} (w : World) {ops : Array Oper} {rest : List Oper} {o : Oper} {a : Act} {Q : Exit → Act → World → Prop}
    (hg : o.guard = none) (l c : Operand) (t : TypeId) (hop : o.op = Op.makeSlice t l c) (e : TypeId) (z : Value) (bytes : Nat) (h1 : P.underlying t = some (.slice e)) (hinfo : (P.info? e).map (fun i => (i.zero, i.size, i.bytes)) = some (some z, 1, bytes)) (hz : z.cells = #[z])
    (kl kc : IntKind) (n : Nat) (hl : a.eval l = .int kl n) (hc : a.eval c = .int kc n) (b2 : bytes * n ≤ 281474976710656) (b3 : n ≤ maxLen)
    (hK : ∀ w', Blk w' w.heap.size e (fn n fun _ => z) → Below w.heap.size w w' → wpList P ops Q rest (a.put o.dst (.slice (some ⟨w.heap.size, 0, none⟩) n n)) w') :
    wpList P ops Q (o :: rest) a w := by
  obtain ⟨i, hi, h0, hs, hb⟩ := info_parts hinfo
  refine wpList_make_full (P := P) w hg l c t hop w.heap.size e i z 1 h1 hi h0 hs kl kc n n n hl hc rfl rfl (by rw [hb]; exact b2) b3 (Nat.le_refl _) fun w' ho hgr => ?_
  rw [hz, Nat.mul_one, toList_madeCells_one, fn_rep] at ho
  exact hK w' (blk_of_row ho) ((Below.refl _ _).grown hgr (Nat.le_refl _) (by simp))
end Go.Proofs.YtdbiihfoafoljaaGreatDoor
