/-
  Chapter 55: a matching in memory.
-/
import Derived.Test.YtckbhdokfkabfaaCk55
import Derived.Test.YtckbhdokfkabfaaApP5
set_option linter.unusedSimpArgs false
set_option linter.unusedVariables false
namespace Go.Proofs.Ytckbhdokfkabfaa
open Go.RowKit
set_option maxRecDepth 100000
set_option maxHeartbeats 2000000
/-- Nothing that was there is changed but the named blocks. -/
structure Far (bs : List Nat) (w w' : World) : Prop where
  os : w'.os = w.os
  tape : w'.tape = w.tape
  output : w'.output = w.output
  size : w.heap.size ≤ w'.heap.size
  block : ∀ b, b < w.heap.size → b ∉ bs → w'.heap[b]? = w.heap[b]?
theorem Far.refl (bs : List Nat) (w : World) : Far bs w w := ⟨rfl, rfl, rfl, Nat.le_refl _, fun _ _ _ => rfl⟩
theorem Far.of {bs : List Nat} {w w' : World} (h : Below w.heap.size w w') : Far bs w w' := ⟨h.os, h.tape, h.output, h.size, fun b hb _ => h.block b hb⟩
theorem Far.trans {bs cs : List Nat} {a b c : World} (h : Far bs a b) (k : Far cs b c) (hc : ∀ x ∈ cs, x ∈ bs ∨ a.heap.size ≤ x) : Far bs a c :=
  ⟨k.os.trans h.os, k.tape.trans h.tape, k.output.trans h.output, Nat.le_trans h.size k.size, fun i hi hn => (k.block i (Nat.lt_of_lt_of_le hi h.size) (fun hx => by rcases hc i hx with h1 | h1; exact hn h1; omega)).trans (h.block i hi hn)⟩
theorem Far.sub {bs cs : List Nat} {a b : World} (h : Far bs a b) (hc : ∀ x ∈ bs, x ∈ cs) : Far cs a b := ⟨h.os, h.tape, h.output, h.size, fun i hi hn => h.block i hi (fun hx => hn (hc i hx))⟩
theorem Far.below {bs : List Nat} {B : Nat} {w w' : World} (h : Far bs w w') (hB : B ≤ w.heap.size) (hb : ∀ x ∈ bs, B ≤ x) : Below B w w' :=
  ⟨h.os, h.tape, h.output, h.size, fun i hi => h.block i (by omega) (fun hx => by have := hb i hx; omega)⟩
theorem Far.cell (w : World) (g o : Nat) (u : Value) : Far [g] w (w.setCell ⟨g, o, none⟩ u) := by
  have h := below_set (B := 0) (Below.refl 0 w) (Nat.zero_le g) o u
  exact ⟨h.os, h.tape, h.output, h.size, fun b hb hn => heap_setCell_other w ⟨g, o, none⟩ b u (by simpa using hn)⟩
theorem Far.grown {bs : List Nat} {w w' : World} {r : Option Nat} (h : w.grownBy w' r) (hr : ∀ b, r = some b → b ∈ bs) : Far bs w w' :=
  ⟨h.os, h.tape, h.output, h.size, fun b hb hn => h.block b hb (fun e => hn (hr b e.symm))⟩
theorem Blk.far {bs : List Nat} {w w' : World} {b e : Nat} {xs : List Value} (h : Blk w b e xs) (hf : Far bs w w') (hn : b ∉ bs) : Blk w' b e xs := by
  have hl := h.lt
  unfold Blk at *
  rw [hf.block b hl hn]
  exact h
def adB (A : Option Addr) : List Nat := (A.map Addr.block).toList
theorem adB_own {A : Option Addr} {n c b : Nat} (h : (Value.slice A n c).ownBlock = some b) : b ∈ adB A := by
  cases A with
  | none => cases h
  | some a => injection h with h; subst h; simp [adB]
theorem own_far {bs : List Nat} {w w' : World} {base e size n m c : Nat} {A : Option Addr} {xs : List Value} (h : w.ownsRow base e size (.slice A m c) n xs) (hf : Far bs w w') (hne : ∀ b ∈ adB A, b ∉ bs) : w'.ownsRow base e size (.slice A m c) n xs := by
  refine ⟨h.1, ?_⟩
  rcases h.2 with h2 | ⟨g, cap, cur, hv, hb, hh, hr⟩
  · exact .inl h2
  · refine .inr ⟨g, cap, cur, hv, hb, ?_, hr⟩
    injection hv with hv
    rw [hf.block g (Array.getElem?_eq_some_iff.1 hh).1 (hne g (by rw [hv]; simp [adB]))]
    exact hh
theorem rd_far {α : Type} {enc : α → List Value} {size : Nat} {bs : List Nat} {w w' : World} {A : Option Addr} {l : List α} (h : Rd enc size w w.heap.size A l) (hf : Far bs w w') (hn : ∀ b ∈ adB A, b ∉ bs) : Rd enc size w' w'.heap.size A l := by
  intro k x hx
  obtain ⟨b, off, e, hl, hc⟩ := h k x hx
  exact ⟨b, off, e, Nat.lt_of_lt_of_le hl hf.size, fun j u hu => (World.cell?_of_block (a := ⟨b, off + k * size + j, none⟩) (hf.block b hl (hn b (by rw [e]; simp [adB])))).trans (hc j u hu)⟩
theorem own_in {w : World} {base e size n m c : Nat} {A : Option Addr} {xs : List Value} (h : w.ownsRow base e size (.slice A m c) n xs) : ∀ b ∈ adB A, base ≤ b ∧ b < w.heap.size := by
  intro b hb
  refine own_range h b ?_
  cases A with
  | none => simp [adB] at hb
  | some a => simp [adB] at hb; subst hb; rfl
/-! Rows of one cell each -/
theorem flat1_set {α : Type} {enc : α → List Value} (hs : ∀ x, (enc x).length = 1) (l : List α) (k : Nat) (x : α) (u : Value) (hx : enc x = [u]) : (l.flatMap enc).set k u = (l.set k x).flatMap enc := by
  induction l generalizing k with
  | nil => simp
  | cons a l ih =>
    obtain ⟨v, hv⟩ : ∃ v, enc a = [v] := by
      have := hs a
      match h : enc a, this with
      | [v], _ => exact ⟨v, rfl⟩
    cases k with
    | zero => simp [hv, hx]
    | succ k => simp [hv, ih k]
theorem own1_at {α : Type} {enc : α → List Value} (hs : ∀ x, (enc x).length = 1) {w : World} {B e n c k : Nat} {A : Option Addr} {l : List α} {x : α} {u : Value} (h : OwnL enc 1 e B w (.slice A n c) l) (hk : l[k]? = some x) (hx : enc x = [u]) :
    ∃ g, A = some ⟨g, 0, none⟩ ∧ w.cell? ⟨g, k, none⟩ = some u ∧ w.frozen? ⟨g, k, none⟩ = false ∧ g < w.heap.size ∧ B ≤ g ∧ n = l.length := by
  have hkl := (List.getElem?_eq_some_iff.1 hk).1
  rcases h.2 with ⟨_, h0⟩ | ⟨g, cap, cur, hv, hb, hh, _⟩
  · omega
  · injection hv with h1 h2 h3
    subst h1 h2 h3
    have hc := World.ownsRow.cellAt (g := g) h k (by omega)
    have hf := flat_at hs l k x hk 0 u (by rw [hx]; rfl)
    rw [Nat.mul_one, Nat.add_zero] at hf
    exact ⟨g, rfl, hc.trans hf, World.ownsRow.frozenAt h k, (Array.getElem?_eq_some_iff.1 hh).1, hb, rfl⟩
theorem own1_set {α : Type} {enc : α → List Value} (hs : ∀ x, (enc x).length = 1) {w : World} {B e n c k g : Nat} {l : List α} {x : α} {u : Value} (h : OwnL enc 1 e B w (.slice (some ⟨g, 0, none⟩) n c) l) (hx : enc x = [u]) :
    OwnL enc 1 e B (w.setCell ⟨g, k, none⟩ u) (.slice (some ⟨g, 0, none⟩) n c) (l.set k x) := by
  have hn : n = l.length := by
    rcases h.2 with ⟨h1, _⟩ | ⟨g', cap, cur, hv, _⟩
    · cases h1
    · injection hv
  subst hn
  have h1 := (World.ownsRow.stored h k u).1
  unfold OwnL
  rw [← flat1_set hs l k x u hx, List.length_set]
  exact h1
/-! The matching -/
def boE (b : Bool) : List Value := [.bool b]
def nE (n : Nat) : List Value := [.int .i64 (n : Int)]
theorem boE_len (b : Bool) : (boE b).length = 1 := rfl
theorem nE_len (n : Nat) : (nE n).length = 1 := rfl
structure Rw where
  a : Option Addr
  c : Nat
  r : List Bool
def rwE (n : Nat) (x : Rw) : List Value := [.slice x.a n x.c]
theorem rwE_len (n : Nat) (x : Rw) : (rwE n x).length = 1 := rfl
structure Mx where
  bX : Nat
  R : Option Addr
  rc : Nat
  N : Option Addr
  nc : Nat
  U : Option Addr
  uc : Nat
  nm : Nat
  nu : Nat
def rwB (rows : List Rw) : List Nat := rows.flatMap fun r => adB r.a
def Mx.bs (x : Mx) (rows : List Rw) : List Nat := x.bX :: (adB x.R ++ (adB x.N ++ (adB x.U ++ rwB rows)))
structure MatS (B : Nat) (x : Mx) (rows : List Rw) (need : List Nat) (us : List Int) (w : World) : Prop where
  blk : Blk w x.bX 93 [.slice x.R x.nm x.rc, .slice x.N x.nm x.nc, .slice x.U x.nu x.uc]
  ge : B ≤ x.bX
  outer : OwnL (rwE x.nu) 1 94 B w (.slice x.R x.nm x.rc) rows
  row : ∀ r ∈ rows, OwnL boE 1 4 B w (.slice r.a x.nu r.c) r.r ∧ r.r.length = x.nu
  hneed : OwnL nE 1 3 B w (.slice x.N x.nm x.nc) need
  hused : OwnL iE 1 3 B w (.slice x.U x.nu x.uc) us
  nd : (x.bs rows).Nodup
  lr : rows.length = x.nm
  ln : need.length = x.nm
  lu : us.length = x.nu
def mayR (rows : List Rw) : List (List Bool) := rows.map Rw.r
theorem MatS.to {B : Nat} {x : Mx} {rows : List Rw} {need : List Nat} {us : List Int} {w w' : World} (h : MatS B x rows need us w) (hb : Below w.heap.size w w') : MatS B x rows need us w' :=
  ⟨h.blk.to hb, h.ge, own_below h.outer hb (Nat.le_refl _), fun r hr => ⟨own_below (h.row r hr).1 hb (Nat.le_refl _), (h.row r hr).2⟩, own_below h.hneed hb (Nat.le_refl _), own_below h.hused hb (Nat.le_refl _), h.nd, h.lr, h.ln, h.lu⟩
theorem MatS.inB {B : Nat} {x : Mx} {rows : List Rw} {need : List Nat} {us : List Int} {w : World} (h : MatS B x rows need us w) : ∀ b ∈ x.bs rows, B ≤ b ∧ b < w.heap.size := by
  intro b hb
  unfold Mx.bs at hb
  rcases List.mem_cons.1 hb with e | e
  · subst e; exact ⟨h.ge, h.blk.lt⟩
  · rcases List.mem_append.1 e with e | e
    · exact own_in h.outer b e
    · rcases List.mem_append.1 e with e | e
      · exact own_in h.hneed b e
      · rcases List.mem_append.1 e with e | e
        · exact own_in h.hused b e
        · obtain ⟨r, hr, hb2⟩ := List.mem_flatMap.1 e
          exact own_in (h.row r hr).1 b hb2
theorem MatS.far {B : Nat} {x : Mx} {rows : List Rw} {need : List Nat} {us : List Int} {bs : List Nat} {w w' : World} (h : MatS B x rows need us w) (hf : Far bs w w') (hn : ∀ b ∈ x.bs rows, b ∉ bs) : MatS B x rows need us w' :=
  ⟨h.blk.far hf (hn _ (by simp [Mx.bs])), h.ge, own_far h.outer hf (fun b hb => hn b (by simp [Mx.bs, hb])), fun r hr => ⟨own_far (h.row r hr).1 hf (fun b hb => hn b (by
      unfold Mx.bs
      simp only [List.mem_cons, List.mem_append]
      exact Or.inr (Or.inr (Or.inr (Or.inr (List.mem_flatMap.2 ⟨r, hr, hb⟩)))))), (h.row r hr).2⟩, own_far h.hneed hf (fun b hb => hn b (by simp [Mx.bs, hb])), own_far h.hused hf (fun b hb => hn b (by simp [Mx.bs, hb])), h.nd, h.lr, h.ln, h.lu⟩
theorem nd_app {α : Type} {a b : List α} (h : (a ++ b).Nodup) : ∀ x ∈ a, x ∉ b := fun x hx hb => (List.nodup_append.1 h).2.2 x hx x hb rfl
/-- Who is where: what the list of blocks says. -/
theorem MatS.ndU {B : Nat} {x : Mx} {rows : List Rw} {need : List Nat} {us : List Int} {w : World} (h : MatS B x rows need us w) :
    x.bX ∉ adB x.U ∧ (∀ b ∈ adB x.R, b ∉ adB x.U) ∧ (∀ b ∈ adB x.N, b ∉ adB x.U) ∧ (∀ r ∈ rows, ∀ b ∈ adB r.a, b ∉ adB x.U) := by
  have hd := h.nd
  unfold Mx.bs at hd
  rw [List.nodup_cons] at hd
  obtain ⟨h0, h1⟩ := hd
  have h2 := nd_app h1
  have h3 := (List.nodup_append.1 h1).2.1
  have h4 := nd_app h3
  have h5 := (List.nodup_append.1 h3).2.1
  have h6 := nd_app h5
  refine ⟨fun e => h0 (by simp [e]), fun b hb e => h2 b hb (by simp [e]), fun b hb e => h4 b hb (by simp [e]), fun r hr b hb e => h6 b e (List.mem_flatMap.2 ⟨r, hr, hb⟩)⟩
theorem MatS.ndN {B : Nat} {x : Mx} {rows : List Rw} {need : List Nat} {us : List Int} {w : World} (h : MatS B x rows need us w) :
    x.bX ∉ adB x.N ∧ (∀ b ∈ adB x.R, b ∉ adB x.N) ∧ (∀ b ∈ adB x.U, b ∉ adB x.N) ∧ (∀ r ∈ rows, ∀ b ∈ adB r.a, b ∉ adB x.N) := by
  have hd := h.nd
  unfold Mx.bs at hd
  rw [List.nodup_cons] at hd
  obtain ⟨h0, h1⟩ := hd
  have h2 := nd_app h1
  have h3 := (List.nodup_append.1 h1).2.1
  have h4 := nd_app h3
  refine ⟨fun e => h0 (by simp [e]), fun b hb e => h2 b hb (by simp [e]), fun b hb e => h4 b e (by simp [hb]), fun r hr b hb e => h4 b e (by simp only [List.mem_append]; exact Or.inr (List.mem_flatMap.2 ⟨r, hr, hb⟩))⟩
/-- Another list of who stands where. -/
theorem MatS.setU {B : Nat} {x : Mx} {rows : List Rw} {need : List Nat} {us us' : List Int} {w w' : World} (h : MatS B x rows need us w) (hf : Far (adB x.U) w w') (ho : OwnL iE 1 3 B w' (.slice x.U x.nu x.uc) us') (hl : us'.length = x.nu) : MatS B x rows need us' w' := by
  obtain ⟨a1, a2, a3, a4⟩ := h.ndU
  exact ⟨h.blk.far hf a1, h.ge, own_far h.outer hf a2, fun r hr => ⟨own_far (h.row r hr).1 hf (a4 r hr), (h.row r hr).2⟩, own_far h.hneed hf a3, ho, h.nd, h.lr, h.ln, hl⟩
theorem MatS.setN {B : Nat} {x : Mx} {rows : List Rw} {need need' : List Nat} {us : List Int} {w w' : World} (h : MatS B x rows need us w) (hf : Far (adB x.N) w w') (ho : OwnL nE 1 3 B w' (.slice x.N x.nm x.nc) need') (hl : need'.length = x.nm) : MatS B x rows need' us w' := by
  obtain ⟨a1, a2, a3, a4⟩ := h.ndN
  exact ⟨h.blk.far hf a1, h.ge, own_far h.outer hf a2, fun r hr => ⟨own_far (h.row r hr).1 hf (a4 r hr), (h.row r hr).2⟩, ho, own_far h.hused hf a3, h.nd, h.lr, hl, h.lu⟩
/-- What a walk reads of a matching. -/
theorem MatS.cells {B : Nat} {x : Mx} {rows : List Rw} {need : List Nat} {us : List Int} {w : World} (h : MatS B x rows need us w) :
    w.cell? ⟨x.bX, 0, none⟩ = some (.slice x.R x.nm x.rc) ∧ w.cell? ⟨x.bX, 1, none⟩ = some (.slice x.N x.nm x.nc) ∧ w.cell? ⟨x.bX, 2, none⟩ = some (.slice x.U x.nu x.uc) ∧ x.bX < w.heap.size := ⟨h.blk.cell 0, h.blk.cell 1, h.blk.cell 2, h.blk.lt⟩
end Go.Proofs.Ytckbhdokfkabfaa
