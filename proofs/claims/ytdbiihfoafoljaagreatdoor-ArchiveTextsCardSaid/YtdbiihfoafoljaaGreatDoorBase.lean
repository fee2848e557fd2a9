/-
  Small words for memory, over any program: a slice that reads as a list ('Rd'), a slice that the call itself owns ('OwnL').
-/
import Derived.WalkKit
import Derived.WalkSpells
import Derived.WalkLawsBesides
import Derived.Deep.QuietTactic
import Derived.Deep.Draws
import Derived.Laws.OwnMore
import Derived.BigQuiet
import Derived.Lib.Hide
set_option linter.unusedSimpArgs false
set_option linter.unusedVariables false
namespace Go.Proofs.YtdbiihfoafoljaaGreatDoor
open Go.RowKit

theorem bcell {W w1 : World} (hb : Below W.heap.size W w1) : (∀ b o, b < W.heap.size → w1.cell? ⟨b, o, none⟩ = W.cell? ⟨b, o, none⟩) ∧ (∀ b o, b < W.heap.size → w1.frozen? ⟨b, o, none⟩ = W.frozen? ⟨b, o, none⟩) :=
  ⟨fun b o h => hb.cell (p := ⟨b, o, none⟩) h, fun b o h => hb.frozen (p := ⟨b, o, none⟩) h⟩

theorem below_drewN {B : Nat} {a w : World} (h : Below B a w) (n : Nat) : Below B a (w.drewN n) := ⟨h.os, h.tape, h.output, h.size, h.block⟩

/-- Behind a contract that ends in 'Below' of its own start: what was below stays. -/
theorem below_then {B : Nat} {a w w' : World} (h : Below B a w) (h' : Below w.heap.size w w') (hB : B ≤ w.heap.size) : Below B a w' := h.trans (h'.mono hB)

/-- The slice at A reads as the list l: element k's cells are 'enc' of it. -/
def Rd {α : Type} (enc : α → List Value) (size : Nat) (w : World) (B : Nat) (A : Option Addr) (l : List α) : Prop :=
  ∀ k x, l[k]? = some x → ∃ b off, A = some ⟨b, off, none⟩ ∧ b < B ∧ ∀ j u, (enc x)[j]? = some u → w.cell? ⟨b, off + k * size + j, none⟩ = some u

section
variable {α : Type} {enc : α → List Value} {size B B' : Nat} {w w' : World} {A : Option Addr} {l : List α}
theorem Rd.keep (h : Rd enc size w B A l) (hk : ∀ p : Addr, p.block < B → w'.cell? p = w.cell? p) : Rd enc size w' B A l := by
  intro k x hx
  obtain ⟨b, off, e, hb, hc⟩ := h k x hx
  exact ⟨b, off, e, hb, fun j u hu => (hk _ hb).trans (hc j u hu)⟩
theorem Rd.below (h : Rd enc size w B A l) (hb : Below B w w') : Rd enc size w' B A l := h.keep fun _ hp => hb.cell hp
theorem Rd.more (h : Rd enc size w B A l) (hB : B ≤ B') : Rd enc size w B' A l := by
  intro k x hx
  obtain ⟨b, off, e, hb, hc⟩ := h k x hx
  exact ⟨b, off, e, by omega, hc⟩
theorem Rd.at_ {k : Nat} {x : α} (h : Rd enc size w B A l) (hb : Below B w w') (hx : l[k]? = some x) :
    ∃ b off, A = some ⟨b, off, none⟩ ∧ b < B ∧ ∀ j u, (enc x)[j]? = some u → w'.cell? ⟨b, off + k * size + j, none⟩ = some u :=
  h.below hb k x hx
theorem Rd.nil_ : Rd enc size w B A [] := fun k x hx => by simp at hx
theorem Rd.pre (h : Rd enc size w B A l) (n : Nat) : Rd enc size w B A (l.take n) := by
  intro k x hx
  rw [List.getElem?_take] at hx
  split at hx
  · exact h k x hx
  · cases hx

theorem flat_at (hs : ∀ x, (enc x).length = size) : ∀ (l : List α) (k : Nat) (x : α), l[k]? = some x → ∀ j u, (enc x)[j]? = some u → (l.flatMap enc)[k * size + j]? = some u := by
  intro l
  induction l with
  | nil => intro k x hx; simp at hx
  | cons y l ih =>
    intro k x hx j u hu
    cases k with
    | zero =>
      simp at hx
      subst hx
      have hj : j < (enc y).length := (List.getElem?_eq_some_iff.1 hu).1
      simp only [List.flatMap_cons, Nat.zero_mul, Nat.zero_add]
      rw [List.getElem?_append_left hj]
      exact hu
    | succ k =>
      simp at hx
      have := ih k x hx j u hu
      simp only [List.flatMap_cons]
      rw [List.getElem?_append_right (by rw [hs, Nat.succ_mul]; omega), hs, show (k + 1) * size + j - size = k * size + j by rw [Nat.succ_mul]; omega]
      exact this

theorem flat_length (hs : ∀ x, (enc x).length = size) (l : List α) : (l.flatMap enc).length = l.length * size := by
  induction l with
  | nil => simp
  | cons y l ih => simp only [List.flatMap_cons, List.length_append, ih, hs, List.length_cons, Nat.succ_mul]; omega

/-- The slice v is the call's own and holds the list l. -/
def OwnL (enc : α → List Value) (size : Nat) (e : TypeId) (base : Nat) (w : World) (v : Value) (l : List α) : Prop :=
  w.ownsRow base e size v l.length (l.flatMap enc)

theorem OwnL.rd {e : TypeId} {base : Nat} {v : Value} (hs : ∀ x, (enc x).length = size) (h : OwnL enc size e base w v l) :
    ∃ A c, v = .slice A l.length c ∧ Rd enc size w w.heap.size A l ∧ ∀ b off, A = some ⟨b, off, none⟩ → base ≤ b ∧ off = 0 := by
  rcases h.2 with ⟨hv, hn⟩ | ⟨g, cap, cur, hv, hb, hg, _, _, _, htake⟩
  · exact ⟨none, 0, by rw [hv, hn], fun k x hx => by rw [List.eq_nil_of_length_eq_zero hn] at hx; simp at hx, by simp⟩
  · refine ⟨some ⟨g, 0, none⟩, cap, hv, fun k x hx => ⟨g, 0, rfl, (Array.getElem?_eq_some_iff.1 hg).1, fun j u hu => ?_⟩, fun b off e => by injection e with e; injection e with e1 e2 _; omega⟩
    have h1 := flat_at hs l k x hx j u hu
    have h2 := h.cells (g := g) (by rw [hv]; rfl) _ _ h1
    simpa [Addr.add_lit] using h2
end

theorem news_new (w : World) (cs : List Value) (e : TypeId) : ∀ j u, cs[j]? = some u → (w.alloc (.cells cs.toArray e)).cell? ((⟨w.heap.size, 0, none⟩ : Addr).add j) = some u := by
  intro j u hu
  rw [Addr.add_lit, cell_of_row _ w.heap.size (0 + j) cs.toArray e (0, 0) (heap_alloc_new w _)]
  simpa using hu
theorem own_form {w : World} {base e size n : Nat} {v : Value} {xs : List Value} (h : w.ownsRow base e size v n xs) : ∃ A c, v = .slice A n c := by
  rcases h.2 with ⟨rfl, rfl⟩ | ⟨g, cap, cur, rfl, _⟩
  · exact ⟨_, _, rfl⟩
  · exact ⟨_, _, rfl⟩
theorem own_snoc {α : Type} {enc : α → List Value} {size : Nat} {w : World} {base e : Nat} {v : Value} {l : List α} {f : α} (h : w.ownsRow base e size v (l.length + 1) (l.flatMap enc ++ enc f)) : OwnL enc size e base w v (l ++ [f]) := by
  unfold OwnL
  simp only [List.length_append, List.length_cons, List.length_nil, List.flatMap_append, List.flatMap_cons, List.flatMap_nil, List.append_nil]
  exact h

/-- The call's own cells 'cs' (block, place, value) hold what they hold, and nothing that was there before has turned. -/
def Keep (w wr : World) (cs : List (Nat × Nat × Value)) : Prop :=
  Below w.heap.size w wr ∧ ∀ c ∈ cs, c.1 < wr.heap.size ∧ wr.cell? ⟨c.1, c.2.1, none⟩ = some c.2.2
theorem Keep.to {w wr w1 : World} {cs : List (Nat × Nat × Value)} (h : Keep w wr cs) (hb : Below wr.heap.size wr w1) : Keep w w1 cs :=
  ⟨h.1.trans (hb.mono h.1.size), fun c hc => ⟨Nat.lt_of_lt_of_le (h.2 c hc).1 hb.size, (hb.cell (p := ⟨c.1, c.2.1, none⟩) (h.2 c hc).1).trans (h.2 c hc).2⟩⟩
theorem cur_here (w : World) : Below w.heap.size w w := Below.refl _ _
theorem cur_new (w : World) (o : Obj) : Below w.heap.size w (w.alloc o) := (Below.refl _ _).alloc (Nat.le_refl _) _
theorem cur_step0 {w w1 : World} {o : Obj} (h : Below (w.alloc o).heap.size (w.alloc o) w1) : Below w.heap.size w w1 :=
  (cur_new w o).trans (h.mono (by simp))
theorem cur_step1 {w wx w1 : World} (h : Below w.heap.size w wx) (h1 : Below wx.heap.size wx w1) : Below w.heap.size w w1 := h.trans (h1.mono h.size)
theorem cur_step2 {w wx w1 : World} {o : Obj} (h : Below w.heap.size w wx) (h1 : Below (wx.alloc o).heap.size (wx.alloc o) w1) : Below w.heap.size w w1 := cur_step1 h (cur_step0 h1)
theorem two_new (w : World) (o1 o2 : Obj) : ((w.alloc o1).alloc o2).heap[w.heap.size + 1]? = some o2 := by
  have := heap_alloc_new (w.alloc o1) o2
  simpa using this
theorem three_new (w : World) (o1 o2 o3 : Obj) : (((w.alloc o1).alloc o2).alloc o3).heap[w.heap.size + 2]? = some o3 := by
  have := heap_alloc_new ((w.alloc o1).alloc o2) o3
  simpa using this
theorem cur_two (w : World) (o1 o2 : Obj) : Below w.heap.size w ((w.alloc o1).alloc o2) := cur_step1 (cur_new w _) (cur_new _ _)
theorem cur_drew (w : World) (n : Nat) : Below w.heap.size w (w.drewN n) := below_drewN (Below.refl _ _) n
theorem Rd.to {α : Type} {enc : α → List Value} {size : Nat} {w w' : World} {A : Option Addr} {l : List α} (h : Rd enc size w w.heap.size A l) (hb : Below w.heap.size w w') : Rd enc size w' w'.heap.size A l := (h.below hb).more hb.size
theorem Keep.start {w wr : World} {cs : List (Nat × Nat × Value)} (hb : Below w.heap.size w wr) (h : ∀ c ∈ cs, c.1 < wr.heap.size ∧ wr.cell? ⟨c.1, c.2.1, none⟩ = some c.2.2) : Keep w wr cs := ⟨hb, h⟩
theorem Keep.more {w wr : World} {cs ds : List (Nat × Nat × Value)} (h : Keep w wr cs) (hd : ∀ c ∈ ds, c.1 < wr.heap.size ∧ wr.cell? ⟨c.1, c.2.1, none⟩ = some c.2.2) : Keep w wr (ds ++ cs) :=
  ⟨h.1, fun c hc => by exact (List.mem_append.1 hc).elim (hd c) (h.2 c)⟩
theorem Keep.get {w wr : World} {cs : List (Nat × Nat × Value)} (h : Keep w wr cs) {b o : Nat} {v : Value} (hm : (b, o, v) ∈ cs) : wr.cell? ⟨b, o, none⟩ = some v := (h.2 _ hm).2
theorem Keep.lt {w wr : World} {cs : List (Nat × Nat × Value)} (h : Keep w wr cs) {b o : Nat} {v : Value} (hm : (b, o, v) ∈ cs) : b < wr.heap.size := (h.2 _ hm).1
theorem Keep.sub {w wr : World} {cs ds : List (Nat × Nat × Value)} (h : Keep w wr cs) (hd : ∀ c ∈ ds, c ∈ cs) : Keep w wr ds := ⟨h.1, fun c hc => h.2 c (hd c hc)⟩
/-- The worlds that keep 'cs' (and all that is older than W's end): the class in which a drawn region of loads and of calls that only make memory is walked once. -/
structure Wd (W : World) (cs : List (Nat × Nat × Value)) where
  w : World
  h : Keep W w cs
theorem wp_region_wd {P : Program} {id : Nat} {Q : Exit → Act → World → Prop} {a : Act} {w : World} {l : List Oper} (W : World) (cs : List (Nat × Nat × Value)) (hm : P.follows .mixedOrders = true) (hB : Region.lexB .any l.toArray = true) (h0 : Keep W w.drew cs)
    (h : wpQuiet P l.toArray (fun w' => ∃ s : Wd W cs, w' = s.w) (fun a' => ∀ w', (∃ s : Wd W cs, w' = s.w) → Q .normal a' w') l a) : (Code.region id l.toArray true).wp P Q a w :=
  wp_region_quiet (C := fun w' => ∃ s : Wd W cs, w' = s.w) hm hB ⟨⟨_, h0⟩, rfl⟩ (by simpa using h)
theorem Keep.drew {W w : World} {cs : List (Nat × Nat × Value)} (h : Keep W w cs) : Keep W w.drew cs := ⟨h.1.drew, h.2⟩
end Go.Proofs.YtdbiihfoafoljaaGreatDoor
