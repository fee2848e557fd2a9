/-
  Chapter 58: the merge of two files. Plain.
-/
import Derived.Test.YtimmlffgokgekaaMap58
import Derived.Test.YtimmlffgokgekaaLib58
import Derived.Test.YtimmlffgokgekaaEnQ
set_option linter.unusedSimpArgs false
set_option linter.unusedVariables false
namespace Go.Proofs.Ytimmlffgokgekaa
open Go.RowKit
def fnd (f : List Ent) (i : Int) : Option Ent := f.find? (fun x => decide (x.id = i))
def tkn (x p q : Option Ent) : Option Ent := if p = x then q else if q = x ∨ q = p then p else x
def cls (x p q : Option Ent) : Bool := !decide (p = x) && !decide (q = x ∨ q = p)
def tkI (B L R : List Ent) (i : Int) : Option Ent := tkn (fnd B i) (fnd L i) (fnd R i)
def clI (B L R : List Ent) (i : Int) : Bool := cls (fnd B i) (fnd L i) (fnd R i)
def mOut (B L R : List Ent) (ids : List Int) : List Ent := ids.filterMap (tkI B L R)
def mCl (B L R : List Ent) (ids : List Int) : List Int := ids.filter (clI B L R)
def idsU (B L R : List Ent) : List Int := Lib.compact (sortL ((B ++ (L ++ R)).map Ent.id))
def MergeS (B L R : List Ent) : List Ent × List Int × Int :=
  if chkA B ≠ 0 then ([], [], chkA B) else if chkA L ≠ 0 then ([], [], chkA L) else if chkA R ≠ 0 then ([], [], chkA R)
  else (mOut B L R (idsU B L R), mCl B L R (idsU B L R), 0)
/-- An accepted file, in words. -/
structure GoodA (f : List Ent) : Prop where
  ok : ∀ x ∈ f, 1 ≤ x.id ∧ x.id ≤ 1099511627776 ∧ nameB x.sc = true ∧ chkE x.ev = 0
  up : (f.map Ent.id).Pairwise (· < ·)
theorem goodA_of {f : List Ent} (h : chkA f = 0) : GoodA f := by
  unfold chkA at h
  split at h
  · cases h
  obtain ⟨h1, h2, _⟩ := aScan_ok h
  exact ⟨h1, h2⟩
theorem GoodA.chk {f : List Ent} (h : GoodA f) (hl : f.length ≤ 4000) : chkA f = 0 := by
  unfold chkA
  rw [if_neg (by omega)]
  exact aScan_of h.ok h.up (fun y hy => by cases hy)
theorem fnd_id {f : List Ent} {i : Int} {x : Ent} (h : fnd f i = some x) : x ∈ f ∧ x.id = i := by
  unfold fnd at h
  have h1 := List.mem_of_find?_eq_some h
  have h2 := List.find?_some h
  exact ⟨h1, by simpa using h2⟩
theorem fnd_none {f : List Ent} {i : Int} : fnd f i = none ↔ ∀ x ∈ f, x.id ≠ i := by
  unfold fnd
  rw [List.find?_eq_none]
  simp
theorem fnd_mem {f : List Ent} (h : (f.map Ent.id).Pairwise (· < ·)) {x : Ent} (hx : x ∈ f) : fnd f x.id = some x := by
  induction f with
  | nil => cases hx
  | cons y r ih =>
    rw [List.map_cons, List.pairwise_cons] at h
    unfold fnd
    rw [List.find?_cons]
    rcases List.mem_cons.1 hx with rfl | hx
    · simp
    · have hlt := h.1 x.id (List.mem_map_of_mem hx)
      rw [show decide (y.id = x.id) = false from decide_eq_false (by omega)]
      exact ih h.2 hx
theorem fnd_snoc (l : List Ent) (x : Ent) (i : Int) : fnd (l ++ [x]) i = (fnd l i).or (if x.id = i then some x else none) := by
  unfold fnd
  rw [List.find?_append]
  congr 1
  by_cases h : x.id = i <;> simp [h]
theorem byF_fnd : ∀ (n : Nat) (l : List Ent), l.length = n → (l.map Ent.id).Pairwise (· < ·) → ∀ i, byF l i = (fnd l i).getD zEnt := by
  intro n
  induction n with
  | zero => intro l hn _ i; rw [List.eq_nil_of_length_eq_zero hn]; rfl
  | succ n ih =>
    intro l hn hp i
    obtain ⟨m, x, rfl⟩ : ∃ m x, l = m ++ [x] := by
      have hne : l ≠ [] := by intro h; rw [h] at hn; cases hn
      exact ⟨l.dropLast, l.getLast hne, (List.dropLast_concat_getLast hne).symm⟩
    rw [List.map_append, List.pairwise_append] at hp
    have h1 := ih m (by simpa using hn) hp.1 i
    rw [byF_snoc, fnd_snoc]
    show (if i = x.id then x else byF m i) = _
    by_cases e : i = x.id
    · rw [if_pos e, if_pos e.symm]
      have : fnd m i = none := fnd_none.2 fun y hy => by
        have := hp.2.2 y.id (List.mem_map_of_mem hy) x.id (by simp)
        omega
      rw [this]; rfl
    · rw [if_neg e, if_neg (fun h => e h.symm), h1]
      simp
theorem GoodA.byF {f : List Ent} (h : GoodA f) (i : Int) : byF f i = (fnd f i).getD zEnt := byF_fnd _ f rfl h.up i
theorem GoodA.pos {f : List Ent} (h : GoodA f) {i : Int} {x : Ent} (hx : fnd f i = some x) : x.id ≠ 0 := by
  have := h.ok x (fnd_id hx).1
  omega
theorem getD_eq {p x : Option Ent} (hp : ∀ e, p = some e → e.id ≠ 0) (hx : ∀ e, x = some e → e.id ≠ 0) : (p.getD zEnt = x.getD zEnt) ↔ p = x := by
  cases p with
  | none =>
    cases x with
    | none => simp
    | some y => simp; intro h; exact hx y rfl (by rw [← h]; rfl)
  | some z =>
    cases x with
    | none => simp; intro h; exact hp z rfl (by rw [h]; rfl)
    | some y => simp
def tkE (x p q : Ent) : Ent := if p = x then q else if q = x ∨ q = p then p else x
theorem tk_get {B L R : List Ent} (hB : GoodA B) (hL : GoodA L) (hR : GoodA R) (i : Int) : tkE (byF B i) (byF L i) (byF R i) = (tkI B L R i).getD zEnt := by
  rw [hB.byF, hL.byF, hR.byF]
  unfold tkE tkI tkn
  simp only [getD_eq (fun e => hL.pos (i := i) (x := e)) (fun e => hB.pos (i := i) (x := e)), getD_eq (fun e => hR.pos (i := i) (x := e)) (fun e => hB.pos (i := i) (x := e)), getD_eq (fun e => hR.pos (i := i) (x := e)) (fun e => hL.pos (i := i) (x := e))]
  split
  · rfl
  · split <;> rfl
theorem tkI_pos {B L R : List Ent} (hB : GoodA B) (hL : GoodA L) (hR : GoodA R) {i : Int} {e : Ent} (h : tkI B L R i = some e) : e.id ≠ 0 ∧ e.id = i := by
  unfold tkI tkn at h
  split at h
  · exact ⟨hR.pos h, (fnd_id h).2⟩
  · split at h
    · exact ⟨hL.pos h, (fnd_id h).2⟩
    · exact ⟨hB.pos h, (fnd_id h).2⟩
theorem tk_some {B L R : List Ent} (hB : GoodA B) (hL : GoodA L) (hR : GoodA R) {i : Int} (h : (tkE (byF B i) (byF L i) (byF R i)).id ≠ 0) : tkI B L R i = some (tkE (byF B i) (byF L i) (byF R i)) := by
  rw [tk_get hB hL hR] at h ⊢
  cases ht : tkI B L R i with
  | none => rw [ht] at h; exact absurd rfl h
  | some e => rfl
theorem tk_none {B L R : List Ent} (hB : GoodA B) (hL : GoodA L) (hR : GoodA R) {i : Int} (h : (tkE (byF B i) (byF L i) (byF R i)).id = 0) : tkI B L R i = none := by
  rw [tk_get hB hL hR] at h
  cases ht : tkI B L R i with
  | none => rfl
  | some e => rw [ht] at h; exact absurd h (tkI_pos hB hL hR ht).1
theorem cl_get {B L R : List Ent} (hB : GoodA B) (hL : GoodA L) (hR : GoodA R) (i : Int) : clI B L R i = (!decide (byF L i = byF B i) && !decide (byF R i = byF B i ∨ byF R i = byF L i)) := by
  rw [hB.byF, hL.byF, hR.byF]
  unfold clI cls
  simp only [getD_eq (fun e => hL.pos) (fun e => hB.pos), getD_eq (fun e => hR.pos) (fun e => hB.pos), getD_eq (fun e => hR.pos) (fun e => hL.pos)]
theorem mOut_next {B L R : List Ent} {ids : List Int} {k : Nat} {i : Int} (h : ids[k]? = some i) : mOut B L R (ids.take (k + 1)) = mOut B L R (ids.take k) ++ (tkI B L R i).toList := by
  unfold mOut
  rw [List.take_add_one, h, List.filterMap_append]
  cases ht : tkI B L R i <;> simp [ht]
theorem mCl_next {B L R : List Ent} {ids : List Int} {k : Nat} {i : Int} (h : ids[k]? = some i) : mCl B L R (ids.take (k + 1)) = mCl B L R (ids.take k) ++ (if clI B L R i = true then [i] else []) := by
  unfold mCl
  rw [List.take_add_one, h, List.filter_append]
  cases ht : clI B L R i <;> simp [ht]
end Go.Proofs.Ytimmlffgokgekaa
