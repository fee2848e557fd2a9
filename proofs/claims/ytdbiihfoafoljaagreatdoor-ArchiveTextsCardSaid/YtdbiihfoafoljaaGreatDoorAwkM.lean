/-
  Texts of one chapter, put together (a claim holds at most sixty files).
-/
import Derived.Test.YtdbiihfoafoljaaGreatDoorEnQ
import Derived.Maps.OwnOps
import Derived.Maps.Views
import Derived.Test.YtdbiihfoafoljaaGreatDoorLib58
import Derived.Test.YtdbiihfoafoljaaGreatDoorEqs
import Derived.Shelf.SortG.SortNone
import Derived.Deep.RegionHeld3
import Derived.Test.YtdbiihfoafoljaaGreatDoorApp
import Derived.Test.YtdbiihfoafoljaaGreatDoorBlk
import Derived.Lib.AppendZeros
set_option linter.unusedSimpArgs false
set_option linter.unusedVariables false
namespace Go.Proofs.YtdbiihfoafoljaaGreatDoor
section
/-! Chapter 58: entries by their IDs: a map of the call's own with whole structs. -/
open Go.RowKit
set_option maxRecDepth 100000
set_option maxHeartbeats 4000000
def zEnt : Ent := ⟨0, zeroE, ByteArray.empty⟩
def heldE (v : Value) : Option (DataW (List Value) × List MemPlace) := match v with
  | .agg cs => some (.held cs.toList, [])
  | _ => none
theorem heldE_inv {v : Value} {l : List Value} {ps : List MemPlace} (h : heldE v = some (.held l, ps)) : v = .agg l.toArray := by
  unfold heldE at h
  cases v <;> simp at h
  obtain ⟨rfl, _⟩ := h
  simp
def EntM (w : World) (b n : Nat) (f : Int → Ent) : Prop := ∃ D : DataW (List Value), w.ownsMap Tryz.prog 2 heldE b n D ∧ Maps.IsMap D ∧ ∀ k : Int, D.atKey (.int .i64 k) (.held (entE zEnt)) = .held (entE (f k))
theorem EntM.made (w : World) : EntM (w.alloc (.map #[] 0)) w.heap.size 0 (fun _ => zEnt) := ⟨.map [], World.ownsMap_made w _ _ _, Maps.isMap_empty, fun _ => rfl⟩
theorem EntM.lt {w : World} {b n : Nat} {f : Int → Ent} (h : EntM w b n f) : b < w.heap.size := by
  obtain ⟨D, h1, _⟩ := h
  exact h1.lt
theorem EntM.to {w w' : World} {b n : Nat} {f : Int → Ent} (h : EntM w b n f) (hb : Below w.heap.size w w') : EntM w' b n f := by
  have hl := h.lt
  obtain ⟨D, ⟨es, clock, h1, h2, h3, h4⟩, h5⟩ := h
  exact ⟨D, ⟨es, clock, (hb.block b hl).trans h1, h2, h3, h4⟩, h5⟩
theorem EntM.other {w w' : World} {b n : Nat} {f : Int → Ent} {r : Option Nat} (h : EntM w b n f) (hg : w.grownBy w' r) (hne : some b ≠ r) : EntM w' b n f := by
  obtain ⟨D, h1, h5⟩ := h
  exact ⟨D, h1.kept hg hne, h5⟩
theorem EntM.lookup {w : World} {b n : Nat} {f : Int → Ent} (h : EntM w b n f) {x : Int} (hx : (Lit.int .i64 x).wf = true) :
    Sem.run Tryz.prog (Instr.lookup 80 (.map (some b)) (.int .i64 x) false) w = .ok (.agg (entE (f x)).toArray) w := by
  obtain ⟨D, h1, _, h3⟩ := h
  obtain ⟨v, ps, hrun, hv⟩ := h1.lookup (Maps.int_keyed Tryz.underlying2) Tryz.underlying80 (z := .agg (entE zEnt).toArray) (by kernel_rfl) (zd := .held (entE zEnt)) (zp := []) (by rfl) (Maps.keyOf_int_mk Tryz.underlying2 hx)
  rw [h3 x] at hv
  rw [heldE_inv hv] at hrun
  exact hrun
theorem wpList_entPut {w : World} {ops : Array Oper} {rest : List Oper} {o : Oper} {a : Act} {Q : Exit → Act → World → Prop} (hgd : o.guard = none) (m k v : Operand) (hop : o.op = Op.mapUpdate 80 m k v) (b n : Nat) (f : Int → Ent) (x : Ent)
    (hm : a.eval m = .map (some b)) (hk : a.eval k = .int .i64 x.id) (hv : a.eval v = .agg (entE x).toArray) (h : EntM w b n f) (hn : n < maxLen) (hx : (Lit.int .i64 x.id).wf = true)
    (hK : ∀ w', EntM w' b (n + 1) (fun i => if i = x.id then x else f i) → w.grownBy w' (some b) → wpList Tryz.prog ops Q rest (a.put o.dst undef) w') : wpList Tryz.prog ops Q (o :: rest) a w := by
  obtain ⟨D, h1, h2, h3⟩ := h
  refine wpList_mapUpdate_own w hgd m k v 80 hop 2 40 (Maps.int_keyed Tryz.underlying2) Tryz.underlying80 _ b n D hm h1 hn _ _ (.int .i64 x.id) hk hv (Maps.keyOf_int_mk Tryz.underlying2 hx) (.held (entE x)) [] (by rfl) ?_
  intro w' hw' hg
  refine hK w' ⟨_, hw', h2.put _ _, fun y => ?_⟩ hg
  by_cases e : y = x.id
  · subst e
    rw [Maps.atKey_put_same h2 (by first | exact trivial | exact .inl ⟨_, _, rfl⟩ | simp [WideAt.IsKeyLit])]
    simp
  · rw [Maps.atKey_put_other (by intro h; injection h with _ h; exact e h), h3 y]
    show _ = DataW.held (entE (if y = x.id then x else f y))
    rw [if_neg e]
/-- What the map of a file says: the last entry with an ID. -/
def byF (l : List Ent) : Int → Ent := l.foldl (fun f x i => if i = x.id then x else f i) (fun _ => zEnt)
theorem byF_snoc (l : List Ent) (x : Ent) : byF (l ++ [x]) = fun i => if i = x.id then x else byF l i := by unfold byF; rw [List.foldl_append]; rfl
def ByR (l : List Ent) (w : World) (g : Nat) (iv : Value) (wr : World) : Prop := ∃ k : Nat, k ≤ l.length ∧ iv = .int .i64 k ∧ EntM wr g k (byF (l.take k)) ∧ Below w.heap.size w wr
theorem byid_p (l : List Ent) (A : Option Addr) (c : Nat) (w : World) (hl : l.length ≤ 1000000) (hwf : ∀ x ∈ l, (Lit.int .i64 x.id).wf = true) (hrd : Rd entE 21 w w.heap.size A l) :
    Calls Tryz.prog 36 #[.slice A l.length c] w fun e' w' => (∃ b n, e' = .returned (.map (some b)) ∧ w.heap.size ≤ b ∧ EntM w' b n (byF l)) ∧ Below w.heap.size w w' := by
  have HRD := Lib.hid hrd
  have HWF := Lib.hid hwf
  clear hrd hwf
  have hmk : ∀ w, Sem.run Tryz.prog (Instr.makeMap 80 none) w = .ok (.map (some w.heap.size)) (w.alloc (.map #[] 0)) := fun w => run_makeMap _ w
  go_enter Tryz.func36, Tryz.ntmps36
  go_wp2_with (fail)
  have HM0 := Lib.hid (EntM.made w)
  go_loopw [9] (ByR l w w.heap.size) (fun i _ => l.length - (intOf i).toNat)
  case atStart => exact ⟨0, by omega, rfl, HM0.out, cur_new _ _⟩
  case round =>
    obtain ⟨k, hk, rfl, hm, hb⟩ := hrel
    have HM := Lib.hid hm
    have HB := Lib.hid hb
    clear hm hb
    by_cases hkl : k < l.length
    · obtain ⟨x, hx⟩ : ∃ x, l[k]? = some x := ⟨_, List.getElem?_eq_getElem hkl⟩
      obtain ⟨b2, off2, rfl, hb2l, hc2⟩ := HRD.out k x hx
      have HRA := Lib.hid (show wr.rangeAt b2 (off2 + k * 21) (entE x) from fun j v hv => (HB.out.cell (p := ⟨b2, off2 + k * 21 + j, none⟩) hb2l).trans (hc2 j v hv))
      have HNX := Lib.hid (show byF (l.take (k + 1)) = fun i => if i = x.id then x else byF (l.take k) i by rw [List.take_add_one, hx]; exact byF_snoc _ _)
      have HXW := Lib.hid (HWF.out x (List.mem_of_getElem? hx))
      clear hc2 hx
      obtain ⟨W6, hW6⟩ : ∃ y, wr.alloc (.cells (entE x).toArray 40) = y := ⟨_, rfl⟩
      have HB6 := Lib.hid (show Below wr.heap.size wr W6 by rw [← hW6]; exact cur_new _ _)
      have HX6 := Lib.hid (show Blk W6 wr.heap.size 40 (entE x) by rw [← hW6]; exact Blk.new wr _ _)
      have S6 := Lib.hid hW6
      have e0 : W6.cell? ⟨wr.heap.size, 0, none⟩ = some (.int .i64 x.id) := by rw [HX6.out.cell]; rfl
      clear hW6
      have HM6 := Lib.hid (HM.out.to HB6.out)
      go_wp2_with (first | (refine wpList_load_mid rfl 40 _ rfl b2 (off2 + k * 21) (by rfl) (entE x) _ HRA.out (by rfl) (by rfl) ent_info ?_) | (refine wpList_storeNew rfl _ _ 40 rfl _ (entE x).toArray ent_info (by rfl) (by rfl) rfl (ent_one _) ?_; rw [S6.out]) | (refine wpList_loadC rfl _ 40 rfl wr.heap.size 40 (entE x) _ rfl (by rfl) (by rfl) (by rfl) HX6.out ?_) | (at_mapUpdate; refine wpList_entPut rfl _ _ _ rfl w.heap.size k _ x rfl rfl rfl HM6.out (by unfold maxLen; omega) HXW.out ?_; intro w9 hm9 hg9))
      have HM9 := Lib.hid hm9
      have HB9 := Lib.hid ((cur_step1 HB.out HB6.out).grown hg9 (cur_step1 HB.out HB6.out).size (fun b hb => by injection hb with hb; omega))
      clear hm9 hg9
      go_wp2_with (fail)
      exact ⟨⟨k + 1, by omega, rfl, by rw [HNX.out]; exact HM9.out, HB9.out⟩, by show l.length - (k + 1) < l.length - k; omega⟩
    · have HKN := Lib.hid (show k = l.length by omega)
      go_wp2_with (fail)
      go_ret
      refine ⟨⟨w.heap.size, k, rfl, Nat.le_refl _, ?_⟩, HB.out⟩
      have := HM.out
      rw [show l.take k = l from by rw [HKN.out]; exact List.take_length] at this
      exact this
end

section
/-! Chapter 58: the merge of two files. Plain. -/
open Go.RowKit
def fnd (f : List Ent) (i : Int) : Option Ent := f.find? (fun x => decide (x.id = i))
def tkn (x p q : Option Ent) : Option Ent := if p = x then q else if q = x ∨ q = p then p else x
def cls (x p q : Option Ent) : Bool := !decide (p = x) && !decide (q = x ∨ q = p)
def tkI (B L R : List Ent) (i : Int) : Option Ent := tkn (fnd B i) (fnd L i) (fnd R i)
def clI (B L R : List Ent) (i : Int) : Bool := cls (fnd B i) (fnd L i) (fnd R i)
def mOut (B L R : List Ent) (ids : List Int) : List Ent := ids.filterMap (tkI B L R)
def mCl (B L R : List Ent) (ids : List Int) : List Int := ids.filter (clI B L R)
def idsU (B L R : List Ent) : List Int := Lib.compact (sortL ((B ++ (L ++ R)).map Ent.id))
def MergeS (B L R : List Ent) : List Ent × List Int × Int :=
  if chkA B ≠ 0 then ([], [], chkA B) else if chkA L ≠ 0 then ([], [], chkA L) else if chkA R ≠ 0 then ([], [], chkA R)
  else (mOut B L R (idsU B L R), mCl B L R (idsU B L R), 0)
/-- An accepted file, in words. -/
structure GoodA (f : List Ent) : Prop where
  ok : ∀ x ∈ f, 1 ≤ x.id ∧ x.id ≤ 1099511627776 ∧ nameB x.sc = true ∧ chkE x.ev = 0
  up : (f.map Ent.id).Pairwise (· < ·)
theorem goodA_of {f : List Ent} (h : chkA f = 0) : GoodA f := by
  unfold chkA at h
  split at h
  · cases h
  obtain ⟨h1, h2, _⟩ := aScan_ok h
  exact ⟨h1, h2⟩
theorem GoodA.chk {f : List Ent} (h : GoodA f) (hl : f.length ≤ 4000) : chkA f = 0 := by
  unfold chkA
  rw [if_neg (by omega)]
  exact aScan_of h.ok h.up (fun y hy => by cases hy)
theorem fnd_id {f : List Ent} {i : Int} {x : Ent} (h : fnd f i = some x) : x ∈ f ∧ x.id = i := by
  unfold fnd at h
  have h1 := List.mem_of_find?_eq_some h
  have h2 := List.find?_some h
  exact ⟨h1, by simpa using h2⟩
theorem fnd_none {f : List Ent} {i : Int} : fnd f i = none ↔ ∀ x ∈ f, x.id ≠ i := by
  unfold fnd
  rw [List.find?_eq_none]
  simp
theorem fnd_mem {f : List Ent} (h : (f.map Ent.id).Pairwise (· < ·)) {x : Ent} (hx : x ∈ f) : fnd f x.id = some x := by
  induction f with
  | nil => cases hx
  | cons y r ih =>
    rw [List.map_cons, List.pairwise_cons] at h
    unfold fnd
    rw [List.find?_cons]
    rcases List.mem_cons.1 hx with rfl | hx
    · simp
    · have hlt := h.1 x.id (List.mem_map_of_mem hx)
      rw [show decide (y.id = x.id) = false from decide_eq_false (by omega)]
      exact ih h.2 hx
theorem fnd_snoc (l : List Ent) (x : Ent) (i : Int) : fnd (l ++ [x]) i = (fnd l i).or (if x.id = i then some x else none) := by
  unfold fnd
  rw [List.find?_append]
  congr 1
  by_cases h : x.id = i <;> simp [h]
theorem byF_fnd : ∀ (n : Nat) (l : List Ent), l.length = n → (l.map Ent.id).Pairwise (· < ·) → ∀ i, byF l i = (fnd l i).getD zEnt := by
  intro n
  induction n with
  | zero => intro l hn _ i; rw [List.eq_nil_of_length_eq_zero hn]; rfl
  | succ n ih =>
    intro l hn hp i
    obtain ⟨m, x, rfl⟩ : ∃ m x, l = m ++ [x] := by
      have hne : l ≠ [] := by intro h; rw [h] at hn; cases hn
      exact ⟨l.dropLast, l.getLast hne, (List.dropLast_concat_getLast hne).symm⟩
    rw [List.map_append, List.pairwise_append] at hp
    have h1 := ih m (by simpa using hn) hp.1 i
    rw [byF_snoc, fnd_snoc]
    show (if i = x.id then x else byF m i) = _
    by_cases e : i = x.id
    · rw [if_pos e, if_pos e.symm]
      have : fnd m i = none := fnd_none.2 fun y hy => by
        have := hp.2.2 y.id (List.mem_map_of_mem hy) x.id (by simp)
        omega
      rw [this]; rfl
    · rw [if_neg e, if_neg (fun h => e h.symm), h1]
      simp
theorem GoodA.byF {f : List Ent} (h : GoodA f) (i : Int) : byF f i = (fnd f i).getD zEnt := byF_fnd _ f rfl h.up i
theorem GoodA.pos {f : List Ent} (h : GoodA f) {i : Int} {x : Ent} (hx : fnd f i = some x) : x.id ≠ 0 := by
  have := h.ok x (fnd_id hx).1
  omega
theorem getD_eq {p x : Option Ent} (hp : ∀ e, p = some e → e.id ≠ 0) (hx : ∀ e, x = some e → e.id ≠ 0) : (p.getD zEnt = x.getD zEnt) ↔ p = x := by
  cases p with
  | none =>
    cases x with
    | none => simp
    | some y => simp; intro h; exact hx y rfl (by rw [← h]; rfl)
  | some z =>
    cases x with
    | none => simp; intro h; exact hp z rfl (by rw [h]; rfl)
    | some y => simp
def tkE (x p q : Ent) : Ent := if p = x then q else if q = x ∨ q = p then p else x
theorem tk_get {B L R : List Ent} (hB : GoodA B) (hL : GoodA L) (hR : GoodA R) (i : Int) : tkE (byF B i) (byF L i) (byF R i) = (tkI B L R i).getD zEnt := by
  rw [hB.byF, hL.byF, hR.byF]
  unfold tkE tkI tkn
  simp only [getD_eq (fun e => hL.pos (i := i) (x := e)) (fun e => hB.pos (i := i) (x := e)), getD_eq (fun e => hR.pos (i := i) (x := e)) (fun e => hB.pos (i := i) (x := e)), getD_eq (fun e => hR.pos (i := i) (x := e)) (fun e => hL.pos (i := i) (x := e))]
  split
  · rfl
  · split <;> rfl
theorem tkI_pos {B L R : List Ent} (hB : GoodA B) (hL : GoodA L) (hR : GoodA R) {i : Int} {e : Ent} (h : tkI B L R i = some e) : e.id ≠ 0 ∧ e.id = i := by
  unfold tkI tkn at h
  split at h
  · exact ⟨hR.pos h, (fnd_id h).2⟩
  · split at h
    · exact ⟨hL.pos h, (fnd_id h).2⟩
    · exact ⟨hB.pos h, (fnd_id h).2⟩
theorem tk_some {B L R : List Ent} (hB : GoodA B) (hL : GoodA L) (hR : GoodA R) {i : Int} (h : (tkE (byF B i) (byF L i) (byF R i)).id ≠ 0) : tkI B L R i = some (tkE (byF B i) (byF L i) (byF R i)) := by
  rw [tk_get hB hL hR] at h ⊢
  cases ht : tkI B L R i with
  | none => rw [ht] at h; exact absurd rfl h
  | some e => rfl
theorem tk_none {B L R : List Ent} (hB : GoodA B) (hL : GoodA L) (hR : GoodA R) {i : Int} (h : (tkE (byF B i) (byF L i) (byF R i)).id = 0) : tkI B L R i = none := by
  rw [tk_get hB hL hR] at h
  cases ht : tkI B L R i with
  | none => rfl
  | some e => rw [ht] at h; exact absurd h (tkI_pos hB hL hR ht).1
theorem cl_get {B L R : List Ent} (hB : GoodA B) (hL : GoodA L) (hR : GoodA R) (i : Int) : clI B L R i = (!decide (byF L i = byF B i) && !decide (byF R i = byF B i ∨ byF R i = byF L i)) := by
  rw [hB.byF, hL.byF, hR.byF]
  unfold clI cls
  simp only [getD_eq (fun e => hL.pos) (fun e => hB.pos), getD_eq (fun e => hR.pos) (fun e => hB.pos), getD_eq (fun e => hR.pos) (fun e => hL.pos)]
theorem mOut_next {B L R : List Ent} {ids : List Int} {k : Nat} {i : Int} (h : ids[k]? = some i) : mOut B L R (ids.take (k + 1)) = mOut B L R (ids.take k) ++ (tkI B L R i).toList := by
  unfold mOut
  rw [List.take_add_one, h, List.filterMap_append]
  cases ht : tkI B L R i <;> simp [ht]
theorem mCl_next {B L R : List Ent} {ids : List Int} {k : Nat} {i : Int} (h : ids[k]? = some i) : mCl B L R (ids.take (k + 1)) = mCl B L R (ids.take k) ++ (if clI B L R i = true then [i] else []) := by
  unfold mCl
  rw [List.take_add_one, h, List.filter_append]
  cases ht : clI B L R i <;> simp [ht]
end

section
/-! Chapter 58: the IDs of three files, ascending, each once: as the program and as the reference make them. Plain. -/
open Go.RowKit
theorem pw_ext : ∀ {l m : List Int}, l.Pairwise (· < ·) → m.Pairwise (· < ·) → (∀ x, x ∈ l ↔ x ∈ m) → l = m := by
  intro l
  induction l with
  | nil =>
    intro m _ _ h
    cases m with
    | nil => rfl
    | cons y r => exact absurd ((h y).2 (by simp)) (by simp)
  | cons x r ih =>
    intro m hl hm h
    cases m with
    | nil => exact absurd ((h x).1 (by simp)) (by simp)
    | cons y s =>
      rw [List.pairwise_cons] at hl hm
      have hxy : x = y := by
        rcases List.mem_cons.1 ((h x).1 (by simp)) with e | h1
        · exact e
        · rcases List.mem_cons.1 ((h y).2 (by simp)) with e | h2
          · exact e.symm
          · have h3 := hl.1 y h2; have h4 := hm.1 x h1; omega
      subst hxy
      congr 1
      refine ih hl.2 hm.2 fun z => ⟨fun hz => ?_, fun hz => ?_⟩
      · rcases List.mem_cons.1 ((h z).1 (by simp [hz])) with e | h2
        · subst e; have := hl.1 z hz; omega
        · exact h2
      · rcases List.mem_cons.1 ((h z).2 (by simp [hz])) with e | h2
        · subst e; have := hm.1 z hz; omega
        · exact h2
def insI : List Int → Int → List Int
  | [], x => [x]
  | y :: r, x => if y < x then y :: insI r x else if y = x then y :: r else x :: y :: r
theorem insI_mem (l : List Int) (x z : Int) : z ∈ insI l x ↔ z = x ∨ z ∈ l := by
  induction l with
  | nil => simp [insI]
  | cons y r ih =>
    unfold insI
    split
    · rw [List.mem_cons, ih, List.mem_cons]
      exact or_left_comm
    · split
      · rename_i h; subst h
        rw [List.mem_cons]
        exact ⟨fun h => Or.inr h, fun h => h.elim (fun e => Or.inl e) id⟩
      · rw [List.mem_cons]
theorem insI_pw {l : List Int} (x : Int) (h : l.Pairwise (· < ·)) : (insI l x).Pairwise (· < ·) := by
  induction l with
  | nil => simp [insI]
  | cons y r ih =>
    rw [List.pairwise_cons] at h
    unfold insI
    split
    · rename_i h1
      rw [List.pairwise_cons]
      refine ⟨fun z hz => ?_, ih h.2⟩
      rcases (insI_mem r x z).1 hz with rfl | h2
      · exact h1
      · exact h.1 z h2
    · split
      · rw [List.pairwise_cons]; exact h
      · rw [List.pairwise_cons, List.pairwise_cons]
        refine ⟨fun z hz => ?_, h⟩
        rcases List.mem_cons.1 hz with rfl | h2
        · omega
        · have := h.1 z h2; omega
theorem insI_len (l : List Int) (x : Int) : (insI l x).length ≤ l.length + 1 := by
  induction l with
  | nil => simp [insI]
  | cons y r ih =>
    unfold insI
    split
    · simp; exact ih
    · split <;> simp
theorem insI_at {l : List Int} {x : Int} {k : Nat} (hk : k ≤ l.length) (hlt : ∀ j y, j < k → l[j]? = some y → y < x) (hend : ∀ y, l[k]? = some y → ¬ y < x) : insI l x = if l[k]? = some x then l else l.take k ++ ([x] ++ l.drop k) := by
  induction l generalizing k with
  | nil =>
    have : k = 0 := by simpa using hk
    subst this
    simp [insI]
  | cons y r ih =>
    unfold insI
    cases k with
    | zero =>
      have h0 := hend y rfl
      rw [if_neg h0]
      by_cases e : y = x
      · rw [if_pos e, if_pos (by simp [e])]
      · rw [if_neg e, if_neg (by simpa using e)]; simp
    | succ k =>
      have h0 := hlt 0 y (by omega) rfl
      rw [if_pos h0, ih (k := k) (by simpa using hk) (fun j z hj hz => hlt (j + 1) z (by omega) (by simpa using hz)) (fun z hz => hend z (by simpa using hz))]
      by_cases e : r[k]? = some x
      · rw [if_pos e, if_pos (by simpa using e)]
      · rw [if_neg e, if_neg (by simpa using e)]; simp
def insL (l : List Int) (xs : List Int) : List Int := xs.foldl insI l
theorem insL_mem (l xs : List Int) (z : Int) : z ∈ insL l xs ↔ z ∈ l ∨ z ∈ xs := by
  induction xs generalizing l with
  | nil => simp [insL]
  | cons x r ih =>
    show z ∈ insL (insI l x) r ↔ _
    rw [ih, insI_mem]
    simp
    constructor
    · rintro ((h | h) | h) <;> simp [h]
    · rintro (h | h | h) <;> simp [h]
theorem insL_pw {l : List Int} (xs : List Int) (h : l.Pairwise (· < ·)) : (insL l xs).Pairwise (· < ·) := by
  induction xs generalizing l with
  | nil => exact h
  | cons x r ih => exact ih (insI_pw x h)
theorem insL_len (l xs : List Int) : (insL l xs).length ≤ l.length + xs.length := by
  induction xs generalizing l with
  | nil => simp [insL]
  | cons x r ih =>
    have h1 := ih (insI l x)
    have h2 := insI_len l x
    show (insL (insI l x) r).length ≤ _
    simp; omega
theorem insL_snoc (l xs : List Int) (x : Int) : insL l (xs ++ [x]) = insI (insL l xs) x := by unfold insL; rw [List.foldl_append]; rfl
theorem insL_app (l xs ys : List Int) : insL l (xs ++ ys) = insL (insL l xs) ys := by unfold insL; rw [List.foldl_append]
/-- What slices.Compact keeps of a list that does not fall. -/
theorem cmpUp (d : Array Int) (hs : ∀ i j, i < j → j < d.size → d[i]! ≤ d[j]!) : ∀ m, m ≤ d.size → (Lib.compactUpTo d m).Pairwise (· < ·) ∧ (∀ x, x ∈ Lib.compactUpTo d m ↔ ∃ j, j < m ∧ d[j]! = x) := by
  intro m
  induction m with
  | zero => intro _; exact ⟨by simp [Lib.compactUpTo], by simp [Lib.compactUpTo]⟩
  | succ m ih =>
    intro hm
    obtain ⟨h1, h2⟩ := ih (by omega)
    rw [Lib.compactUpTo_succ]
    by_cases hk : Lib.keeps d m = true
    · rw [if_pos hk]
      refine ⟨?_, fun x => ?_⟩
      · rw [List.pairwise_append]
        refine ⟨h1, by simp, fun x hx y hy => ?_⟩
        simp at hy
        subst hy
        obtain ⟨j, hj, rfl⟩ := (h2 x).1 hx
        unfold Lib.keeps at hk
        simp at hk
        have h3 : d[j]! ≤ d[m - 1]! := by
          by_cases e : j = m - 1
          · rw [e]; exact Int.le_refl _
          · exact hs j (m - 1) (by omega) (by omega)
        have h4 := hs (m - 1) m (by omega) (by omega)
        rcases hk with hk | hk
        · omega
        · omega
      · rw [List.mem_append, h2]
        constructor
        · rintro (⟨j, hj, rfl⟩ | h)
          · exact ⟨j, by omega, rfl⟩
          · simp at h; exact ⟨m, by omega, h.symm⟩
        · rintro ⟨j, hj, rfl⟩
          by_cases e : j = m
          · subst e; right; simp
          · left; exact ⟨j, by omega, rfl⟩
    · rw [if_neg hk, List.append_nil]
      refine ⟨h1, fun x => ?_⟩
      rw [h2]
      unfold Lib.keeps at hk
      simp at hk
      constructor
      · rintro ⟨j, hj, rfl⟩; exact ⟨j, by omega, rfl⟩
      · rintro ⟨j, hj, rfl⟩
        by_cases e : j = m
        · subst e; exact ⟨j - 1, by omega, hk.2.symm⟩
        · exact ⟨j, by omega, rfl⟩
theorem sortL_up (zs : List Int) : (sortL zs).Pairwise (· ≤ ·) := by
  have := List.pairwise_mergeSort (le := fun x y : Int => decide (x ≤ y)) (fun a b c h1 h2 => by simp at *; omega) (fun a b => by simp; omega) zs
  exact List.Pairwise.imp (by intro a b h; simpa using h) this
theorem sortL_mem (zs : List Int) (x : Int) : x ∈ sortL zs ↔ x ∈ zs := by unfold sortL; exact List.mem_mergeSort
theorem compact_spec {zs : List Int} (h : zs.Pairwise (· ≤ ·)) : (Lib.compact zs).Pairwise (· < ·) ∧ ∀ x, x ∈ Lib.compact zs ↔ x ∈ zs := by
  have := cmpUp zs.toArray (fun i j hij hj => by
    rw [List.pairwise_iff_getElem] at h
    simp at hj
    have := h i j (by omega) hj hij
    simpa [getElem!_pos, hj, show i < zs.length by omega] using this) zs.length (by simp)
  refine ⟨this.1, fun x => ?_⟩
  rw [show Lib.compact zs = Lib.compactUpTo zs.toArray zs.length from rfl, this.2 x]
  constructor
  · rintro ⟨j, hj, rfl⟩
    rw [getElem!_pos zs.toArray j (by simpa using hj)]
    simp
  · intro hx
    obtain ⟨j, hj, rfl⟩ := List.getElem_of_mem hx
    exact ⟨j, hj, by rw [getElem!_pos zs.toArray j (by simpa using hj)]; simp⟩
theorem idsU_spec (B L R : List Ent) : (idsU B L R).Pairwise (· < ·) ∧ ∀ x, x ∈ idsU B L R ↔ x ∈ (B ++ (L ++ R)).map Ent.id := by
  obtain ⟨h1, h2⟩ := compact_spec (sortL_up ((B ++ (L ++ R)).map Ent.id))
  exact ⟨h1, fun x => (h2 x).trans (sortL_mem _ x)⟩
theorem idsU_ins (B L R : List Ent) : insL [] ((B ++ (L ++ R)).map Ent.id) = idsU B L R :=
  pw_ext (insL_pw _ List.Pairwise.nil) (idsU_spec B L R).1 fun x => by rw [insL_mem, (idsU_spec B L R).2]; simp
end

section
/-! Chapter 58: the chapter's example. First the laws' own small functions. -/
open Go.RowKit
set_option maxRecDepth 100000
set_option maxHeartbeats 4000000
theorem evt_one (x : Ev) : (evE x).toArray.all (·.oneCell') = true := by simp [evE, delE, Value.oneCell']
def stopE : Ev := ⟨16, 0, 0, 0, false, 0, 0, zeroD⟩
def noteE : Ev := ⟨10, 0, 0, 0, false, 0, 0, zeroD⟩
def annS : ByteArray := ⟨#[65, 78, 78]⟩
theorem stop_p (w : World) : Calls Tryz.prog 13 #[] w fun e' w' => e' = .returned (.agg (evE stopE).toArray) ∧ Below w.heap.size w w' := by
  obtain ⟨W1, hW1⟩ : ∃ y, w.alloc (.cells (evE stopE).toArray 38) = y := ⟨_, rfl⟩
  have S1 := Lib.hid hW1
  have HB := Lib.hid (show Below w.heap.size w W1 by rw [← hW1]; exact cur_new _ _)
  have HK := Lib.hid (show Blk W1 w.heap.size 38 (evE stopE) by rw [← hW1]; exact Blk.new _ _ _)
  clear hW1
  go_enter Tryz.func13, Tryz.ntmps13
  go_upto_region 1 with (fail)
  refine wp_region_lit ?_
  refine wpList_buildTo rfl _ _ rfl _ rfl (evE stopE).toArray (by kernel_rfl) ?_
  refine wpList_storeNew rfl _ _ 38 rfl _ (evE stopE).toArray evt_info3 (by rfl) (by rfl) rfl (evt_one _) ?_
  rw [S1.out]
  go_wp2_with (fail)
  refine ret_cell (g := w.heap.size) (xs := evE stopE) rfl rfl HK.out Tryz.underlying38 rfl evt_info3 rfl ⟨rfl, HB.out⟩
theorem note_p (w : World) : Calls Tryz.prog 14 #[] w fun e' w' => e' = .returned (.agg (evE noteE).toArray) ∧ Below w.heap.size w w' := by
  obtain ⟨W1, hW1⟩ : ∃ y, w.alloc (.cells (evE noteE).toArray 38) = y := ⟨_, rfl⟩
  have S1 := Lib.hid hW1
  have HB := Lib.hid (show Below w.heap.size w W1 by rw [← hW1]; exact cur_new _ _)
  have HK := Lib.hid (show Blk W1 w.heap.size 38 (evE noteE) by rw [← hW1]; exact Blk.new _ _ _)
  clear hW1
  go_enter Tryz.func14, Tryz.ntmps14
  go_upto_region 1 with (fail)
  refine wp_region_lit ?_
  refine wpList_buildTo rfl _ _ rfl _ rfl (evE noteE).toArray (by kernel_rfl) ?_
  refine wpList_storeNew rfl _ _ 38 rfl _ (evE noteE).toArray evt_info3 (by rfl) (by rfl) rfl (evt_one _) ?_
  rw [S1.out]
  go_wp2_with (fail)
  refine ret_cell (g := w.heap.size) (xs := evE noteE) rfl rfl HK.out Tryz.underlying38 rfl evt_info3 rfl ⟨rfl, HB.out⟩
theorem one_p (i : Int) (e : Ev) (w : World) : Calls Tryz.prog 12 #[.int .i64 i, .agg (evE e).toArray] w fun e' w' => e' = .returned (.agg (entE ⟨i, e, annS⟩).toArray) ∧ Below w.heap.size w w' := by
  obtain ⟨W0, hW0⟩ : ∃ y, w.alloc (.cells (evE e).toArray 38) = y := ⟨_, rfl⟩
  have hs0 : W0.heap.size = w.heap.size + 1 := by rw [← hW0]; simp
  obtain ⟨W1, hW1⟩ : ∃ y, W0.alloc (.cells (entE ⟨i, e, annS⟩).toArray 40) = y := ⟨_, rfl⟩
  have S1 := Lib.hid hW1
  have HB0 := Lib.hid (show Blk (W0.alloc (.cells (entE ⟨0, zeroE, ByteArray.empty⟩).toArray 40)) w.heap.size 38 (evE e) by rw [← hW0]; exact (Blk.new w _ _).to (cur_new _ _))
  have HB := Lib.hid (show Below w.heap.size w W1 by rw [← hW1, ← hW0]; exact cur_two _ _ _)
  have HK := Lib.hid (show Blk W1 (w.heap.size + 1) 40 (entE ⟨i, e, annS⟩) by rw [← hW1, ← hs0]; exact Blk.new _ _ _)
  clear hW1
  go_enter Tryz.func12, Tryz.ntmps12
  go_upto_region 1 with (fail)
  refine wp_region_lit ?_
  (refine wpList_step (fun K hK => ?_); go_simp; refine hK _ _ ?_; clear hK K)
  refine wpList_loadC rfl _ 38 rfl w.heap.size 38 (evE e) _ rfl (by rfl) (by rfl) (by rfl) HB0.out ?_
  refine wpList_buildTo rfl _ _ rfl _ rfl (entE ⟨i, e, annS⟩).toArray (by kernel_rfl) ?_
  refine wpList_storeNew rfl _ _ 40 rfl _ (entE ⟨i, e, annS⟩).toArray ent_info (by rw [hs0]; rfl) (by rfl) rfl (ent_one _) ?_
  rw [S1.out]
  go_wp2_with (fail)
  refine ret_cell (g := w.heap.size + 1) (xs := entE ⟨i, e, annS⟩) rfl rfl HK.out Tryz.underlying40 rfl ent_info rfl ⟨rfl, HB.out⟩
theorem exB_is : chkA [⟨1000, stopE, annS⟩, ⟨2000, stopE, annS⟩] = 0 := by decide +kernel
theorem exL_is : chkA [⟨1000, stopE, annS⟩, ⟨1500, stopE, annS⟩] = 0 := by decide +kernel
theorem exR_is : chkA [⟨1000, noteE, annS⟩, ⟨1500, noteE, annS⟩, ⟨2000, stopE, annS⟩] = 0 := by decide +kernel
theorem exO_is : mOut [⟨1000, stopE, annS⟩, ⟨2000, stopE, annS⟩] [⟨1000, stopE, annS⟩, ⟨1500, stopE, annS⟩] [⟨1000, noteE, annS⟩, ⟨1500, noteE, annS⟩, ⟨2000, stopE, annS⟩] (idsU [⟨1000, stopE, annS⟩, ⟨2000, stopE, annS⟩] [⟨1000, stopE, annS⟩, ⟨1500, stopE, annS⟩] [⟨1000, noteE, annS⟩, ⟨1500, noteE, annS⟩, ⟨2000, stopE, annS⟩]) = [⟨1000, noteE, annS⟩] := by rw [← idsU_ins]; decide +kernel
theorem exC_is : mCl [⟨1000, stopE, annS⟩, ⟨2000, stopE, annS⟩] [⟨1000, stopE, annS⟩, ⟨1500, stopE, annS⟩] [⟨1000, noteE, annS⟩, ⟨1500, noteE, annS⟩, ⟨2000, stopE, annS⟩] (idsU [⟨1000, stopE, annS⟩, ⟨2000, stopE, annS⟩] [⟨1000, stopE, annS⟩, ⟨1500, stopE, annS⟩] [⟨1000, noteE, annS⟩, ⟨1500, noteE, annS⟩, ⟨2000, stopE, annS⟩]) = [1500] := by rw [← idsU_ins]; decide +kernel
theorem chk_stop : chkE stopE = 0 := by decide +kernel
theorem chk_note : chkE noteE = 0 := by decide +kernel
end

section
/-! Chapter 58: Sort and Compact at a slice of the call's own, nil or not. -/
open Go.RowKit
set_option maxRecDepth 100000
set_option maxHeartbeats 4000000
theorem grown_refl (w : World) (r : Option Nat) : w.grownBy w r := ⟨rfl, rfl, rfl, Nat.le_refl _, fun _ _ _ => rfl⟩
theorem sort_any (w : World) (base : Nat) (A : Option Addr) (cap : Nat) (zs : List Int) (h : OwnL inE 1 2 base w (.slice A zs.length cap) zs) (hl : zs.length ≤ 400) :
    Calls Tryz.prog 35 #[.slice A zs.length cap] w fun e w' => e = .returned (.tuple #[]) ∧ OwnL inE 1 2 base w' (.slice A zs.length cap) (sortL zs) ∧ w.grownBy w' (Value.slice A zs.length cap).ownBlock := by
  rcases h.2 with ⟨hv, hn⟩ | ⟨g, cap', cur, hv, _⟩
  · have h0 : zs = [] := List.eq_nil_of_length_eq_zero hn
    subst h0
    injection hv with e1 _ e3
    subst e1 e3
    refine (AnyG.slices_Sort_int_none Tryz.laysSort none 0 w).mono ?_
    rintro e w' ⟨rfl, rfl⟩
    refine ⟨rfl, ?_, grown_refl _ _⟩
    rw [show sortL [] = [] from by unfold sortL; simp]
    exact World.ownsRow_nil _ _ _ _
  · injection hv with e1 _ e3
    subst e1 e3
    exact sort_o w base g cap zs h hl
theorem compact_n (w : World) (A : Option Addr) (cap : Nat) : Calls Tryz.prog 37 #[.slice A 0 cap] w fun e w' => e = .returned (.slice A 0 cap) ∧ w' = w := by
  go_enter Tryz.func37, Tryz.ntmps37
  go_wp2_with (fail)
  go_ret
  exact ⟨rfl, rfl⟩
theorem compact_any (w : World) (base : Nat) (A : Option Addr) (cap : Nat) (zs : List Int) (h : OwnL inE 1 2 base w (.slice A zs.length cap) zs) (hl : zs.length ≤ 400) :
    Calls Tryz.prog 37 #[.slice A zs.length cap] w fun e w' => e = .returned (.slice A (Lib.compact zs).length cap) ∧ Rd inE 1 w' w'.heap.size A (Lib.compact zs) ∧ w.grownBy w' (Value.slice A zs.length cap).ownBlock := by
  rcases h.2 with ⟨hv, hn⟩ | ⟨g, cap', cur, hv, _⟩
  · have h0 : zs = [] := List.eq_nil_of_length_eq_zero hn
    subst h0
    injection hv with e1 _ e3
    subst e1 e3
    refine (compact_n w none 0).mono ?_
    rintro e w' ⟨rfl, rfl⟩
    exact ⟨rfl, Rd.nil_, grown_refl _ _⟩
  · injection hv with e1 _ e3
    subst e1 e3
    refine (compact_o w base g cap zs h hl).mono ?_
    rintro e w' ⟨rfl, ho, hg⟩
    refine ⟨rfl, ?_, hg⟩
    have hlen : (Lib.compact zs ++ List.replicate (zs.length - (Lib.compact zs).length) 0).length = zs.length := by
      have := Lib.compact_length_le zs
      rw [List.length_append, List.length_replicate]; omega
    rw [← hlen] at ho
    obtain ⟨A, c, e, hr, _⟩ := ho.rd inE_len
    injection e with e1 _ e3
    subst e1
    intro k x hx
    exact hr k x (by rw [List.getElem?_append_left (List.getElem?_eq_some_iff.1 hx).1]; exact hx)
theorem compact_len (zs : List Int) : (Lib.compact zs).length ≤ zs.length := Lib.compact_length_le zs
end

section
/-! Chapter 58: the three files of a merge; rows of numbers and of clashes. -/
open Go.RowKit
set_option maxRecDepth 100000
set_option maxHeartbeats 4000000
theorem Tryz.infoI64 : (Tryz.prog.info? 2).map (fun i => (i.zero, i.size, i.bytes)) = some (some (.int .i64 0), 1, 8) := by kernel_rfl
theorem Tryz.i64Elem : ElemOf Tryz.prog inE 1 8 77 2 := .mk' Tryz.infoI64 rfl Tryz.underlying77 (by decide) inE_len (fun x u hu => by simp [inE] at hu; subst hu; rfl)
theorem Tryz.infoCl : (Tryz.prog.info? 51).map (fun i => (i.zero, i.size, i.bytes)) = some (some (.agg #[.int .i64 0]), 1, 8) := by kernel_rfl
theorem Tryz.clElem : ElemOf Tryz.prog inE 1 8 45 51 := .mk' Tryz.infoCl rfl Tryz.underlying45 (by decide) inE_len (fun x u hu => by simp [inE] at hu; subst hu; rfl)
/-- A file as it is handed over. -/
structure Fl where
  a : Option Addr
  c : Nat
  l : List Ent
def flV (f : Fl) : Value := .slice f.a f.l.length f.c
def flI (fl : List Fl) : List Int := fl.flatMap fun f => f.l.map Ent.id
theorem flI_next {fl : List Fl} {k : Nat} {f : Fl} (h : fl[k]? = some f) : flI (fl.take (k + 1)) = flI (fl.take k) ++ f.l.map Ent.id := by
  unfold flI
  rw [List.take_add_one, h, List.flatMap_append]
  simp
/-- What the files answer, one behind the other. -/
def flE : List Fl → Int
  | [] => 0
  | f :: r => if chkA f.l ≠ 0 then chkA f.l else flE r
theorem flE_first {fl : List Fl} {k : Nat} {f : Fl} (h : fl[k]? = some f) (h0 : ∀ g ∈ fl.take k, chkA g.l = 0) (hc : chkA f.l ≠ 0) : flE fl = chkA f.l := by
  induction fl generalizing k with
  | nil => simp at h
  | cons g r ih =>
    cases k with
    | zero => simp at h; subst h; unfold flE; rw [if_pos hc]
    | succ k =>
      simp at h
      have := h0 g (by simp)
      unfold flE
      rw [if_neg (by simpa using this)]
      exact ih h (fun x hx => h0 x (by simp [hx]))
theorem flE_zero {fl : List Fl} (h : ∀ g ∈ fl, chkA g.l = 0) : flE fl = 0 := by
  induction fl with
  | nil => rfl
  | cons g r ih =>
    unfold flE
    rw [if_neg (by simpa using h g (by simp))]
    exact ih fun x hx => h x (by simp [hx])
theorem flI_len {fl : List Fl} {n : Nat} (h : (flI fl).length ≤ n) (k : Nat) : (flI (fl.take k)).length ≤ n := by
  unfold flI at *
  refine Nat.le_trans ?_ h
  have : fl = fl.take k ++ fl.drop k := (List.take_append_drop k fl).symm
  conv => rhs; rw [this, List.flatMap_append, List.length_append]
  omega
end

section
/-! append of a whole list onto a row of the call's own (nothing appended too), in a walk and in a region that draws its order. -/
open Go.RowKit
set_option maxRecDepth 100000
set_option maxHeartbeats 1000000
theorem flat_inv {α : Type} {enc : α → List Value} {size : Nat} (hs : ∀ x, (enc x).length = size) : ∀ (l : List α) (j : Nat) (u : Value), (l.flatMap enc)[j]? = some u → ∃ k x r, l[k]? = some x ∧ (enc x)[r]? = some u ∧ j = k * size + r
  | [], j, u, h => by simp at h
  | x :: l, j, u, h => by
    rw [List.flatMap_cons] at h
    by_cases hj : j < (enc x).length
    · rw [List.getElem?_append_left hj] at h
      exact ⟨0, x, j, rfl, h, by simp⟩
    · rw [List.getElem?_append_right (by omega), hs] at h
      obtain ⟨k, y, r, h1, h2, h3⟩ := flat_inv hs l _ _ h
      exact ⟨k + 1, y, r, h1, h2, by rw [Nat.succ_mul]; have := hs x; omega⟩
theorem run_append_none {P : Program} {w : World} {t ty e : TypeId} {i : TypeInfo} (ht : P.underlying t = some (.slice e)) (hi : P.info? e = some i) (g n c c2 : Nat) (hn : n ≤ c) :
    (Builtin.append_ #[t, t] ty #[.slice (some ⟨g, 0, none⟩) n c, .slice none 0 c2]).run P w = .ok (.slice (some ⟨g, 0, none⟩) n c) w := by
  simp [Builtin.append_, run_underlying ht, sizeOf, typeInfo, hi, Builtin.lenOf, Builtin.firstCells, storeCells, hn, Result.andThen]
theorem run_appL {α : Type} {P : Program} {enc : α → List Value} {size bytes : Nat} {t e : TypeId} (E : ElemOf P enc size bytes t e) (w : World) (ty : TypeId) (base : Nat) (g c : Nat) (l : List α) (hown : OwnL enc size e base w (.slice (some ⟨g, 0, none⟩) l.length c) l)
    (A2 : Option Addr) (c2 : Nat) (l2 : List α) (hr : Rd enc size w w.heap.size A2 l2) (h63 : l.length + l2.length ≤ maxLen) (hbytes : (l.length + l2.length) * bytes ≤ 140737488355328) (hbase : base ≤ w.heap.size) :
    ∃ g' cap w', (Builtin.append_ #[t, t] ty #[.slice (some ⟨g, 0, none⟩) l.length c, .slice A2 l2.length c2]).run P w = .ok (.slice (some ⟨g', 0, none⟩) (l ++ l2).length cap) w' ∧ OwnL enc size e base w' (.slice (some ⟨g', 0, none⟩) (l ++ l2).length cap) (l ++ l2) ∧ w.grownBy w' (some g) ∧ (g' = g ∨ w.heap.size ≤ g') := by
  obtain ⟨z, i, hi, h0, h1, h2, hzs⟩ := E.info
  have hc := own_cap hown
  cases l2 with
  | nil =>
    rw [List.append_nil]
    cases A2 with
    | none => exact ⟨g, c, w, run_append_none E.ty hi g l.length c c2 hc, hown, ⟨rfl, rfl, rfl, Nat.le_refl _, fun _ _ _ => rfl⟩, Or.inl rfl⟩
    | some ad =>
      obtain ⟨w', hrun, ho2, hg2⟩ := run_append_fits (P := P) w base t ty e i size E.ty hi h1 g l.length c _ hown ad 0 c2 [] (by simp) (fun j u hu => by simp at hu) (fun u hu => by cases hu) (by omega)
      exact ⟨g, c, w', hrun, by simpa [OwnL] using ho2, hg2, Or.inl rfl⟩
  | cons y l3 =>
    obtain ⟨b, off, rfl, _, _⟩ := hr 0 y rfl
    obtain ⟨g', cap, w', hrun, ha⟩ := run_app (P := P) w t ty base e i z size bytes E.ty hi h0 h1 h2 hzs E.pos _ _ _ hown ⟨b, off, none⟩ (y :: l3).length c2 ((y :: l3).flatMap enc) (by rw [flat_length E.len]) (fun j u hu => by
      obtain ⟨k, x', r, h3, h4, rfl⟩ := flat_inv E.len _ _ _ hu
      obtain ⟨b', off', e', _, hcl⟩ := hr k x' h3
      injection e' with e'
      injection e' with e1 e2 _
      subst e1 e2
      have := hcl r u h4
      simpa [Addr.add_lit, Nat.add_assoc] using this) (fun u hu => by
      obtain ⟨x', _, hu2⟩ := List.mem_flatMap.1 hu
      exact E.one x' u hu2) (by simp) h63 hbytes hbase
    have ho3 := ha.own
    refine ⟨g', cap, w', by rw [List.length_append]; exact hrun, by unfold OwnL; rw [List.length_append, List.flatMap_append]; exact ho3, ha.grown, ?_⟩
    rcases ha.at_ with h | h
    · injection h with h; exact Or.inl h.symm
    · exact Or.inr (by omega)
theorem wp_appL {α : Type} {P : Program} {enc : α → List Value} {size bytes : Nat} {t e : TypeId} (E : ElemOf P enc size bytes t e) (w : World) {o : Oper} {a : Act} {K : Act → World → Prop} {Q : Exit → Act → World → Prop} (s x : Operand)
    (ho : o.op = .call { callee := .builtin .append, args := #[s, x], argTypes := #[t, t] }) (base : Nat) (g c : Nat) (l : List α) (hs : a.eval s = .slice (some ⟨g, 0, none⟩) l.length c) (hown : OwnL enc size e base w (.slice (some ⟨g, 0, none⟩) l.length c) l)
    (A2 : Option Addr) (c2 : Nat) (l2 : List α) (hx : a.eval x = .slice A2 l2.length c2) (hr : Rd enc size w w.heap.size A2 l2) (h63 : l.length + l2.length ≤ maxLen) (hbytes : (l.length + l2.length) * bytes ≤ 140737488355328) (hbase : base ≤ w.heap.size)
    (h : ∀ g' cap w', OwnL enc size e base w' (.slice (some ⟨g', 0, none⟩) (l ++ l2).length cap) (l ++ l2) → w.grownBy w' (some g) → (g' = g ∨ w.heap.size ≤ g') → K (a.put o.dst (.slice (some ⟨g', 0, none⟩) (l ++ l2).length cap)) w') : o.wp P a w K Q := by
  obtain ⟨g', cap, w', hrun, h1, h2, h3⟩ := run_appL E w o.type base g c l hown A2 c2 l2 hr h63 hbytes hbase
  unfold Oper.wp execOp
  simp only [ho, resolve, invoke, builtin, Sem.run_bind, Sem.run_pure, Result.andThen_ok, List.map_toArray, List.map_cons, List.map_nil, hs, hx, hrun]
  exact h g' cap w' h1 h2 h3
theorem wpList_appL {α : Type} {P : Program} {enc : α → List Value} {size bytes : Nat} {t e : TypeId} (E : ElemOf P enc size bytes t e) (w : World) {ops : Array Oper} {rest : List Oper} {o : Oper} {a : Act} {Q : Exit → Act → World → Prop} (hgd : o.guard = none) (s x : Operand)
    (ho : o.op = .call { callee := .builtin .append, args := #[s, x], argTypes := #[t, t] }) (base : Nat) (g c : Nat) (l : List α) (hs : a.eval s = .slice (some ⟨g, 0, none⟩) l.length c) (hown : OwnL enc size e base w (.slice (some ⟨g, 0, none⟩) l.length c) l)
    (A2 : Option Addr) (c2 : Nat) (l2 : List α) (hx : a.eval x = .slice A2 l2.length c2) (hr : Rd enc size w w.heap.size A2 l2) (h63 : l.length + l2.length ≤ maxLen) (hbytes : (l.length + l2.length) * bytes ≤ 140737488355328) (hbase : base ≤ w.heap.size)
    (h : ∀ g' cap w', OwnL enc size e base w' (.slice (some ⟨g', 0, none⟩) (l ++ l2).length cap) (l ++ l2) → w.grownBy w' (some g) → (g' = g ∨ w.heap.size ≤ g') → wpList P ops Q rest (a.put o.dst (.slice (some ⟨g', 0, none⟩) (l ++ l2).length cap)) w') : wpList P ops Q (o :: rest) a w :=
  wpList_plain hgd fun _ hK => wp_appL E w s x ho base g c l hs hown A2 c2 l2 hx hr h63 hbytes hbase fun g' cap w' h1 h2 h3 => hK _ _ (h g' cap w' h1 h2 h3)
theorem step_appL {α : Type} {P : Program} {enc : α → List Value} {size bytes : Nat} {t e : TypeId} (E : ElemOf P enc size bytes t e) (w : World) {ops : Array Oper} {o : Oper} {a : Act} {K : Act → World → Prop} {Q : Exit → Act → World → Prop} {X : Prop} (hgd : o.guard = none) (s x : Operand)
    (ho : o.op = .call { callee := .builtin .append, args := #[s, x], argTypes := #[t, t] }) (base : Nat) (g c : Nat) (l : List α) (hs : a.eval s = .slice (some ⟨g, 0, none⟩) l.length c) (hown : OwnL enc size e base w (.slice (some ⟨g, 0, none⟩) l.length c) l)
    (A2 : Option Addr) (c2 : Nat) (l2 : List α) (hx : a.eval x = .slice A2 l2.length c2) (hr : Rd enc size w w.heap.size A2 l2) (h63 : l.length + l2.length ≤ maxLen) (hbytes : (l.length + l2.length) * bytes ≤ 140737488355328) (hbase : base ≤ w.heap.size)
    (h : ∀ g' cap w', OwnL enc size e base w' (.slice (some ⟨g', 0, none⟩) (l ++ l2).length cap) (l ++ l2) → w.grownBy w' (some g) → (g' = g ∨ w.heap.size ≤ g') → K (a.put o.dst (.slice (some ⟨g', 0, none⟩) (l ++ l2).length cap)) w') : if Region.wanted o (yielded ops a.tmps) = true then Oper.wp P o a w K Q else X := by
  have hw : Region.wanted o (yielded ops a.tmps) = true := by simp [Region.wanted, hgd]
  rw [if_pos hw]
  exact wp_appL E w s x ho base g c l hs hown A2 c2 l2 hx hr h63 hbytes hbase h
theorem own_take {α : Type} {enc : α → List Value} {size : Nat} (hs : ∀ x, (enc x).length = size) {w : World} {base e : Nat} {g c : Nat} {l : List α} (h : OwnL enc size e base w (.slice (some ⟨g, 0, none⟩) l.length c) l) {k : Nat} (hk : k ≤ l.length) :
    OwnL enc size e base w (.slice (some ⟨g, 0, none⟩) (l.take k).length c) (l.take k) := by
  have hkl : (l.take k).length = k := by simp; omega
  unfold OwnL at *
  refine ⟨by rw [flat_length hs], ?_⟩
  rcases h.2 with ⟨hv, _⟩ | ⟨g', cap, cur, hv, hb, hh, hn, hm, hcs, ht⟩
  · cases hv
  · injection hv with h1 h2 h3
    injection h1 with h1
    injection h1 with h1
    subst h1 h3
    refine .inr ⟨g, c, cur, rfl, hb, hh, by omega, hm, hcs, ?_⟩
    rw [hkl]
    have h4 : (l.take k).flatMap enc = (l.flatMap enc).take (k * size) := by
      have h5 : l.flatMap enc = (l.take k).flatMap enc ++ (l.drop k).flatMap enc := by rw [← List.flatMap_append, List.take_append_drop]
      rw [h5, List.take_append_of_le_length (by rw [flat_length hs, hkl]; exact Nat.le_refl _)]
      exact (List.take_of_length_le (by rw [flat_length hs, hkl]; exact Nat.le_refl _)).symm
    rw [h4, ← ht, List.take_take, Nat.min_eq_left (Nat.mul_le_mul_right _ hk)]
theorem rd_one {α : Type} {enc : α → List Value} {size : Nat} {w : World} {b e : Nat} {x : α} (h : Blk w b e (enc x)) : Rd enc size w w.heap.size (some ⟨b, 0, none⟩) [x] := by
  intro k y hy
  cases k with
  | zero =>
    simp at hy
    subst hy
    exact ⟨b, 0, rfl, h.lt, fun j u hu => by rw [show 0 + 0 * size + j = j by omega, h.cell]; exact hu⟩
  | succ k => simp at hy
theorem own_grown {w w' : World} {base e size n : Nat} {v : Value} {xs : List Value} {r : Option Nat} (h : w.ownsRow base e size v n xs) (hg : w.grownBy w' r) (hne : ∀ b, v.ownBlock = some b → some b ≠ r) : w'.ownsRow base e size v n xs := by
  refine ⟨h.1, ?_⟩
  rcases h.2 with h2 | ⟨g, cap, cur, hv, hb, hh, hr⟩
  · exact .inl h2
  · exact .inr ⟨g, cap, cur, hv, hb, by rw [hg.block g (Array.getElem?_eq_some_iff.1 hh).1 (hne g (by rw [hv]; rfl))]; exact hh, hr⟩
theorem blk_grown {w w' : World} {g e : Nat} {xs : List Value} {r : Option Nat} (h : Blk w g e xs) (hg : w.grownBy w' r) (hne : some g ≠ r) : Blk w' g e xs := by
  have hl := h.lt
  unfold Blk at *
  rw [hg.block g hl hne]
  exact h
end

section
/-! Chapter 58: Merge of the program. -/
open Go.RowKit
set_option maxRecDepth 100000
set_option maxHeartbeats 40000000
/-- The first loop: the files ahead are accepted, their IDs are listed. -/
def M1R (fl : List Fl) (w : World) (v iv : Value) (wr : World) : Prop :=
  ∃ (k : Nat) (A : Option Addr) (c : Nat), k ≤ fl.length ∧ iv = .int .i64 k ∧ v = .slice A (flI (fl.take k)).length c ∧ OwnL inE 1 2 (w.heap.size + 1) wr v (flI (fl.take k)) ∧ (∀ f ∈ fl.take k, chkA f.l = 0) ∧
    Below w.heap.size w wr ∧ Blk wr w.heap.size 22 (fl.map flV)
def M2R (l : List Ent) (pre : List Int) (w w2 : World) (v iv : Value) (wr : World) : Prop :=
  ∃ (k : Nat) (A : Option Addr) (c : Nat), k ≤ l.length ∧ iv = .int .i64 k ∧ v = .slice A (pre ++ (l.take k).map Ent.id).length c ∧ OwnL inE 1 2 (w.heap.size + 1) wr v (pre ++ (l.take k).map Ent.id) ∧ Below (w.heap.size + 1) w2 wr ∧ w.heap.size + 1 ≤ w2.heap.size
def M3R (B L R : List Ent) (ids : List Int) (w7 : World) (v18 v19 iv : Value) (wr : World) : Prop :=
  ∃ (k : Nat) (D1 : Option Addr) (d1 : Nat) (D2 : Option Addr) (d2 : Nat), k ≤ ids.length ∧ iv = .int .i64 k ∧ v18 = .slice D1 (mOut B L R (ids.take k)).length d1 ∧ v19 = .slice D2 (mCl B L R (ids.take k)).length d2 ∧
    OwnL entE 21 40 w7.heap.size wr v18 (mOut B L R (ids.take k)) ∧ OwnL inE 1 51 w7.heap.size wr v19 (mCl B L R (ids.take k)) ∧ (∀ b, v19.ownBlock = some b → v18.ownBlock ≠ some b) ∧ Below w7.heap.size w7 wr
theorem EntM.row {w : World} {b n g : Nat} {f : Int → Ent} (h : EntM w b n f) (hne : b ≠ g) (cs : Array Value) : EntM (w.setRow g cs) b n f := by
  obtain ⟨D, ⟨es, clock, h1, h2, h3, h4⟩, h5⟩ := h
  exact ⟨D, ⟨es, clock, (heap_row_other w g b cs hne).trans h1, h2, h3, h4⟩, h5⟩
theorem wp_abs {P : Program} {code : Code} {Q : Exit → Act → World → Prop} {a : Act} {w : World} (F : Act → Nat → Nat → Nat → Act) (C : Nat → Nat → Nat → World → Prop)
    (h : code.wp P (fun e a' w' => e = .normal ∧ ∃ b1 b2 b3, a' = F a b1 b2 b3 ∧ C b1 b2 b3 w') a w) (h2 : ∀ b1 b2 b3 w', C b1 b2 b3 w' → Q .normal (F a b1 b2 b3) w') : code.wp P Q a w := by
  refine Code.wp_mono ?_ h
  rintro e a' w' ⟨rfl, b1, b2, b3, rfl, hc⟩
  exact h2 b1 b2 b3 w' hc
/-- Three boxes with three entries, made in whatever order. -/
structure Box3 (w0 : World) (x p q : Ent) (b1 b2 b3 : Nat) (w : World) : Prop where
  below : Below w0.heap.size w0 w
  h1 : Blk w b1 40 (entE x)
  h2 : Blk w b2 40 (entE p)
  h3 : Blk w b3 40 (entE q)
  n1 : w0.heap.size ≤ b1
  n2 : w0.heap.size ≤ b2
  n3 : w0.heap.size ≤ b3
def mrgF (bx bp bq : Nat) (i : Int) (x p q : Ent) (a : Act) (b1 b2 b3 : Nat) : Act :=
  (((((((((((a.put (some 68) (.map (some bx))).put (some 69) (.int .i64 i)).put (some 70) (.agg (entE x).toArray)).put (some 71) (.map (some bp))).put (some 72) (.int .i64 i)).put (some 73) (.agg (entE p).toArray)).put (some 74) (.map (some bq))).put (some 75) (.int .i64 i)).put (some 76) (.agg (entE q).toArray)).put (some 22) (.pointer (some ⟨b1, 0, none⟩))).put (some 23) (.pointer (some ⟨b2, 0, none⟩))).put (some 24) (.pointer (some ⟨b3, 0, none⟩))
theorem wf_id {i : Int} {P Q : Prop} (h : 1 ≤ i ∧ i ≤ 1099511627776 ∧ P ∧ Q) : (Lit.int .i64 i).wf = true := by
  simp [Lit.wf, IntKind.min, IntKind.max, IntKind.bits, IntKind.signed]
  omega
theorem merge_e (fl : List Fl) (A1 A2 A3 : Option Addr) (c1 c2 c3 : Nat) (B L R : List Ent) (hfl : fl = [⟨A1, c1, B⟩, ⟨A2, c2, L⟩, ⟨A3, c3, R⟩]) (w : World) (hlen : (flI fl).length ≤ 400) (hsc : ∀ f ∈ fl, ∀ x ∈ f.l, x.sc.size ≤ 9223372036854775807) (hrd : ∀ f ∈ fl, Rd entE 21 w w.heap.size f.a f.l)
    (RR : Ending → World → Prop) (hbad : flE fl ≠ 0 → ∀ w', Below w.heap.size w w' → RR (.returned (.tuple #[.slice none 0 0, .slice none 0 0, .int .i64 (flE fl)])) w')
    (hgood : flE fl = 0 → ∀ v1 v2 w', OwnL entE 21 40 w.heap.size w' v1 (mOut B L R (idsU B L R)) → OwnL inE 1 51 w.heap.size w' v2 (mCl B L R (idsU B L R)) → Below w.heap.size w w' → RR (.returned (.tuple #[v1, v2, .int .i64 0])) w') :
    Calls Tryz.prog 15 #[.slice A1 B.length c1, .slice A2 L.length c2, .slice A3 R.length c3] w RR := by
  have hfv : fl.map flV = [.slice A1 B.length c1, .slice A2 L.length c2, .slice A3 R.length c3] := by rw [hfl]; rfl
  have h3 : fl.length = 3 := by rw [hfl]; rfl
  have hll : ∀ f ∈ fl, f.l.length ≤ 400 := by
    intro f hf
    obtain ⟨k, hk⟩ := List.getElem?_of_mem hf
    have := flI_len hlen (k + 1)
    rw [flI_next hk] at this
    simp at this
    omega
  have HFV := Lib.hid hfv
  have HSC := Lib.hid hsc
  have HRD := Lib.hid hrd
  have HLEN := Lib.hid hlen
  have HLL := Lib.hid hll
  have HBAD := Lib.hid hbad
  have HGOOD := Lib.hid hgood
  have H3 := Lib.hid h3
  have HFL := Lib.hid hfl
  clear hfv hsc hrd hlen hll hbad hgood h3 hfl
  go_enter Tryz.func15, Tryz.ntmps15
  go_wp2_with (fail)
  go_loopw [9, 31] (M1R fl w) (fun _ i _ => 3 - (intOf i).toNat)
  case atStart => exact ⟨0, _, _, by omega, rfl, rfl, World.ownsRow_nil _ _ _ _, by simp, cur_new _ _, by rw [HFV.out]; exact Blk.new w _ _⟩
  case round =>
    obtain ⟨k, A, c, hk, rfl, rfl, hown, hok, hb, hbk⟩ := hrel
    have HO := Lib.hid hown
    have HB := Lib.hid hb
    have HOK := Lib.hid hok
    have HBK := Lib.hid hbk
    rw [H3.out] at hk
    clear hown hb hok hbk
    by_cases hk3 : k < 3
    · obtain ⟨f, hf⟩ : ∃ f, fl[k]? = some f := ⟨_, List.getElem?_eq_getElem (by rw [H3.out]; exact hk3)⟩
      have hfm := List.mem_of_getElem? hf
      have HSF := Lib.hid (HSC.out f hfm)
      have HRF := Lib.hid (HRD.out f hfm)
      have HFF := Lib.hid hf
      have hlf := HLL.out f hfm
      have hcell : wr.cell? ⟨w.heap.size, k, none⟩ = some (.slice f.a f.l.length f.c) := by rw [HBK.out.cell, List.getElem?_map, hf]; rfl
      clear hf hfm
      go_wp2_with (fail)
      refine (chka_p f.l f.a f.c wr (by omega) HSF.out ((HRF.out.below HB.out).more HB.out.size)).mono ?_
      rintro e1 w2 ⟨rfl, hb2⟩
      have HB2 := Lib.hid (cur_step1 HB.out hb2)
      have HO2 := Lib.hid (own_below HO.out hb2 (Nat.le_refl _))
      have HBK2 := Lib.hid (HBK.out.to hb2)
      clear hb2
      by_cases hc : chkA f.l = 0
      · rw [hc]
        obtain ⟨pre, hpre⟩ : ∃ pre, flI (fl.take k) = pre := ⟨_, rfl⟩
        have HNX := Lib.hid (show flI (fl.take (k + 1)) = pre ++ f.l.map Ent.id by rw [flI_next HFF.out, hpre])
        have HPL := Lib.hid (show pre.length + f.l.length ≤ 400 by have := flI_len HLEN.out (k + 1); rw [HNX.out] at this; simpa using this)
        have HOK2 := Lib.hid (show ∀ g ∈ fl.take (k + 1), chkA g.l = 0 by
          intro g hg
          rw [List.take_add_one, HFF.out] at hg
          rcases List.mem_append.1 hg with hg | hg
          · exact HOK.out g hg
          · simp at hg; subst hg; exact hc)
        rw [hpre] at HO2 ⊢
        clear hc hpre
        go_wp2_with (fail)
        go_loopw [9, 42] (M2R f.l pre w w2) (fun _ i _ => f.l.length - (intOf i).toNat)
        case atStart => exact ⟨0, A, c, by omega, rfl, by simp, by rw [List.take_zero, List.map_nil, List.append_nil]; exact HO2.out, Below.refl _ _, Nat.lt_of_lt_of_le (Blk.lt HBK2.out) (Nat.le_refl _)⟩
        case round =>
          obtain ⟨j, A', c', hj, rfl, rfl, hown, hb, hw2⟩ := hrel
          have HO3 := Lib.hid hown
          have HB3 := Lib.hid hb
          have HW2 := Lib.hid hw2
          clear hown hb hw2
          by_cases hjl : j < f.l.length
          · obtain ⟨x, hx⟩ : ∃ x, f.l[j]? = some x := ⟨_, List.getElem?_eq_getElem hjl⟩
            have HBW := Lib.hid (show Below w.heap.size w wr from HB2.out.trans (HB3.out.mono (by omega)))
            obtain ⟨b2, off2, hfa, hb2l, hc2⟩ := HRF.out j x hx
            rw [hfa]
            have HRA := Lib.hid (show wr.rangeAt b2 (off2 + j * 21) (entE x) from fun i v hv => (HBW.out.cell (p := ⟨b2, off2 + j * 21 + i, none⟩) hb2l).trans (hc2 i v hv))
            obtain ⟨M, hM⟩ : ∃ M, pre ++ (f.l.take j).map Ent.id = M := ⟨_, rfl⟩
            have HM := Lib.hid (show pre ++ (f.l.take (j + 1)).map Ent.id = M ++ [x.id] by rw [List.take_add_one, hx, ← hM]; simp)
            have HML := Lib.hid (show M.length ≤ 400 by rw [← hM]; have := HPL.out; simp; omega)
            rw [hM] at HO3 ⊢
            clear hc2 hx hM hfa
            obtain ⟨W6, hW6⟩ : ∃ y, wr.alloc (.cells (entE x).toArray 40) = y := ⟨_, rfl⟩
            have HB6 := Lib.hid (show Below wr.heap.size wr W6 by rw [← hW6]; exact cur_new _ _)
            have HX6 := Lib.hid (show Blk W6 wr.heap.size 40 (entE x) by rw [← hW6]; exact Blk.new wr _ _)
            have S6 := Lib.hid hW6
            have e0 : W6.cell? ⟨wr.heap.size, 0, none⟩ = some (.int .i64 x.id) := by rw [HX6.out.cell]; rfl
            clear hW6
            go_upto_region 11 with (first | (refine wpList_load_mid rfl 40 _ rfl b2 (off2 + j * 21) (by rfl) (entE x) _ HRA.out (by rfl) (by rfl) ent_info ?_) | (refine wpList_storeNew rfl _ _ 40 rfl _ (entE x).toArray ent_info (by rfl) (by rfl) rfl (ent_one _) ?_; rw [S6.out]))
            refine wp_region_lit ?_
            (refine wpList_step (fun K hK => ?_); go_simp; refine hK _ _ ?_; clear hK K)
            (refine wpList_step (fun K hK => ?_); go_simp; refine hK _ _ ?_; clear hK K)
            (refine wpList_step (fun K hK => ?_); go_simp; refine hK _ _ ?_; clear hK K)
            (refine wpList_step (fun K hK => ?_); go_simp; refine hK _ _ ?_; clear hK K)
            obtain ⟨W7, hW7⟩ : ∃ y, W6.alloc (.cells (inE x.id).toArray 2) = y := ⟨_, rfl⟩
            have hb7 : Below W6.heap.size W6 W7 := by rw [← hW7]; exact cur_new _ _
            have hk7 : W7.heap[W6.heap.size]? = some (.cells (inE x.id).toArray 2 (0, 0)) := by rw [← hW7]; exact heap_alloc_new _ _
            have hsh : W6.alloc (.cells #[.int .i64 x.id] 2) = W7 := hW7
            rw [hsh]
            clear hW7 hsh
            have hw7 : Below wr.heap.size wr W7 := cur_step1 HB6.out hb7
            have hs7 := hw7.size
            have hs3 := HB3.out.size
            have hs2 := HW2.out
            refine wpList_app1 Tryz.i64Elem W7 rfl (.tmp 46) (.tmp 49) rfl (w.heap.size + 1) A' c' M (by rfl) (own_below (own_below HO3.out HB6.out (Nat.le_refl _)) hb7 (Nat.le_refl _)) x.id W6.heap.size 1 (by rfl) hk7 (by have := HML.out; unfold maxLen; omega) (by have := HML.out; omega) (by omega) ?_
            intro g2 cap w8 ha
            have HB8 := Lib.hid (show Below (w.heap.size + 1) w2 w8 from (HB3.out.trans (hw7.mono (by omega))).grown ha.grown (by omega) (own_base HO3.out))
            have HO8 := Lib.hid (show OwnL inE 1 2 (w.heap.size + 1) w8 (.slice (some ⟨g2, 0, none⟩) (M.length + 1) cap) (M ++ [x.id]) from ha.one rfl)
            clear ha hk7 hb7 hw7 hs7 hs3 hs2
            go_wp2_with (fail)
            refine ⟨⟨j + 1, some ⟨g2, 0, none⟩, cap, by omega, rfl, by rw [HM.out, List.length_append]; rfl, ?_, HB8.out, HW2.out⟩, by show f.l.length - (j + 1) < f.l.length - j; omega⟩
            rw [HM.out]
            exact HO8.out
          · have HJ := Lib.hid (show (f.l.take j).map Ent.id = f.l.map Ent.id by rw [show f.l.take j = f.l from by rw [show j = f.l.length by omega]; exact List.take_length])
            have HBW := Lib.hid (show Below w.heap.size w wr from HB2.out.trans (HB3.out.mono (by omega)))
            have HBK4 := Lib.hid (show Blk wr w.heap.size 22 (fl.map flV) from (HB3.out.block _ (by omega)).trans HBK2.out)
            go_wp2_with (fail)
            refine ⟨⟨k + 1, A', c', by rw [H3.out]; omega, rfl, by rw [HNX.out, HJ.out], ?_, HOK2.out, HBW.out, HBK4.out⟩, by show 3 - (k + 1) < 3 - k; omega⟩
            have := HO3.out
            rw [HJ.out] at this ⊢
            rw [HNX.out]
            exact this
      · obtain ⟨v, hv⟩ : ∃ v, chkA f.l = v := ⟨_, rfl⟩
        have gv : (v != 0) = true := by rw [← hv]; simpa using hc
        have HE := Lib.hid (show flE fl = v by rw [flE_first HFF.out HOK.out hc, hv])
        have HR := Lib.hid (HBAD.out (by rw [HE.out, ← hv]; exact hc) _ HB2.out)
        rw [hv]
        clear hc hv
        go_wp2_with (fail)
        go_ret3
        have := HR.out
        rw [HE.out] at this
        exact this
    · have hk9 : k = 3 := by omega
      subst hk9
      have HO4 := Lib.hid (show OwnL inE 1 2 (w.heap.size + 1) wr (.slice A (flI fl).length c) (flI fl) by
        have := HO.out
        rw [show fl.take 3 = fl from by rw [← H3.out]; exact List.take_length] at this
        exact this)
      have HOK4 := Lib.hid (show ∀ f ∈ fl, chkA f.l = 0 by
        have := HOK.out
        rw [show fl.take 3 = fl from by rw [← H3.out]; exact List.take_length] at this
        exact this)
      rw [show fl.take 3 = fl from by rw [← H3.out]; exact List.take_length]
      have RB := Lib.hid (HRD.out ⟨A1, c1, B⟩ (by rw [HFL.out]; simp))
      have RL := Lib.hid (HRD.out ⟨A2, c2, L⟩ (by rw [HFL.out]; simp))
      have RR' := Lib.hid (HRD.out ⟨A3, c3, R⟩ (by rw [HFL.out]; simp))
      have GB := Lib.hid (goodA_of (HOK4.out ⟨A1, c1, B⟩ (by rw [HFL.out]; simp)))
      have GL := Lib.hid (goodA_of (HOK4.out ⟨A2, c2, L⟩ (by rw [HFL.out]; simp)))
      have GR := Lib.hid (goodA_of (HOK4.out ⟨A3, c3, R⟩ (by rw [HFL.out]; simp)))
      obtain ⟨zs, hzs⟩ : ∃ zs, flI fl = zs := ⟨_, rfl⟩
      have HZS := Lib.hid (show zs = (B ++ (L ++ R)).map Ent.id by rw [← hzs, HFL.out]; simp [flI])
      have HZL := Lib.hid (show zs.length ≤ 400 by rw [← hzs]; exact HLEN.out)
      have HBL := Lib.hid (show B.length ≤ 400 ∧ L.length ≤ 400 ∧ R.length ≤ 400 by have := HZL.out; rw [HZS.out] at this; simp at this; omega)
      rw [hzs] at HO4 ⊢
      clear hzs
      go_wp2_with (fail)
      refine (sort_any wr (w.heap.size + 1) A c zs HO4.out HZL.out).mono ?_
      rintro e w3 ⟨rfl, ho3, hg3⟩
      have HB3 := Lib.hid (show Below w.heap.size w w3 from HB.out.grown hg3 HB.out.size (fun b hb => by have := own_base HO4.out b hb; omega))
      have HO5 := Lib.hid (show OwnL inE 1 2 (w.heap.size + 1) w3 (.slice A (sortL zs).length c) (sortL zs) by rw [sortL_len]; exact ho3)
      have HSL := Lib.hid (show (sortL zs).length ≤ 400 by rw [sortL_len]; exact HZL.out)
      rw [show zs.length = (sortL zs).length from (sortL_len zs).symm]
      have HIU := Lib.hid (show idsU B L R = Lib.compact (sortL zs) by unfold idsU; rw [HZS.out])
      generalize sortL zs = ys at HO5 HSL HIU ⊢
      clear ho3 hg3
      go_wp2_with (fail)
      refine (byid_p B A1 c1 w3 (by have := HBL.out; omega) (fun x hx => wf_id (GB.out.ok x hx)) ((RB.out.below HB3.out).more HB3.out.size)).mono ?_
      rintro e w4 ⟨⟨bx, nx, rfl, hbx, hmx⟩, hb4⟩
      have HB4 := Lib.hid (cur_step1 HB3.out hb4)
      have HMX := Lib.hid hmx
      have HO6 := Lib.hid (own_below HO5.out hb4 (Nat.le_refl _))
      have HBX := Lib.hid (show w.heap.size ≤ bx from Nat.le_trans HB3.out.size hbx)
      have HXA := Lib.hid (show ∀ k, (Value.slice A ys.length c).ownBlock = some k → k ≠ bx from fun k hk e => by have := (own_range HO5.out k hk).2; omega)
      clear hbx hmx hb4
      go_wp2_with (fail)
      refine (byid_p L A2 c2 w4 (by have := HBL.out; omega) (fun x hx => wf_id (GL.out.ok x hx)) ((RL.out.below HB4.out).more HB4.out.size)).mono ?_
      rintro e w5 ⟨⟨bp, np, rfl, hbp, hmp⟩, hb5⟩
      have HB5 := Lib.hid (cur_step1 HB4.out hb5)
      have HMP := Lib.hid hmp
      have HMX5 := Lib.hid (HMX.out.to hb5)
      have HO7 := Lib.hid (own_below HO6.out hb5 (Nat.le_refl _))
      have HBP := Lib.hid (show w.heap.size ≤ bp from Nat.le_trans HB4.out.size hbp)
      have HPA := Lib.hid (show ∀ k, (Value.slice A ys.length c).ownBlock = some k → k ≠ bp from fun k hk e => by have := (own_range HO6.out k hk).2; omega)
      clear hbp hmp hb5
      go_wp2_with (fail)
      refine (byid_p R A3 c3 w5 (by have := HBL.out; omega) (fun x hx => wf_id (GR.out.ok x hx)) ((RR'.out.below HB5.out).more HB5.out.size)).mono ?_
      rintro e w6 ⟨⟨bq, nq, rfl, hbq, hmq⟩, hb6⟩
      have HB6 := Lib.hid (cur_step1 HB5.out hb6)
      have HMQ := Lib.hid hmq
      have HMP6 := Lib.hid (HMP.out.to hb6)
      have HMX6 := Lib.hid (HMX5.out.to hb6)
      have HO8 := Lib.hid (own_below HO7.out hb6 (Nat.le_refl _))
      have HBQ := Lib.hid (show w.heap.size ≤ bq from Nat.le_trans HB5.out.size hbq)
      have HQA := Lib.hid (show ∀ k, (Value.slice A ys.length c).ownBlock = some k → k ≠ bq from fun k hk e => by have := (own_range HO7.out k hk).2; omega)
      clear hbq hmq hb6
      go_wp2_with (fail)
      refine (compact_any w6 (w.heap.size + 1) A c ys HO8.out HSL.out).mono ?_
      rintro e w7 ⟨rfl, hr7, hg7⟩
      have HB7 := Lib.hid (show Below w.heap.size w w7 from HB6.out.grown hg7 HB6.out.size (fun b hb => by have := own_base HO8.out b hb; omega))
      have HR7 := Lib.hid hr7
      have HMX7 := Lib.hid (HMX6.out.other hg7 (fun e => HXA.out bx e.symm rfl))
      have HMP7 := Lib.hid (HMP6.out.other hg7 (fun e => HPA.out bp e.symm rfl))
      have HMQ7 := Lib.hid (HMQ.out.other hg7 (fun e => HQA.out bq e.symm rfl))
      have HCL := Lib.hid (show (Lib.compact ys).length ≤ 400 from Nat.le_trans (compact_len ys) HSL.out)
      have HWI := Lib.hid (show ∀ i ∈ Lib.compact ys, (Lit.int .i64 i).wf = true from by
        rw [← HIU.out]
        intro i hi
        rw [(idsU_spec B L R).2] at hi
        simp only [List.map_append, List.mem_append, List.mem_map] at hi
        rcases hi with ⟨x, hx, rfl⟩ | ⟨x, hx, rfl⟩ | ⟨x, hx, rfl⟩
        · exact wf_id (GB.out.ok x hx)
        · exact wf_id (GL.out.ok x hx)
        · exact wf_id (GR.out.ok x hx))
      generalize Lib.compact ys = ids at HR7 HCL HIU HWI ⊢
      clear hr7 hg7
      go_wp2_with (fail)
      go_loopw [18, 19, 64] (M3R B L R ids w7) (fun _ _ i _ => ids.length - (intOf i).toNat)
      case atStart => exact ⟨0, none, 0, none, 0, by omega, rfl, rfl, rfl, World.ownsRow_nil _ _ _ _, World.ownsRow_nil _ _ _ _, (fun k h => by cases h), Below.refl _ _⟩
      case round =>
        obtain ⟨k, D1, d1, D2, d2, hk, rfl, rfl, rfl, ho1, ho2, hdis, hb⟩ := hrel
        have HB9 := Lib.hid hb
        have HD1 := Lib.hid ho1
        have HD2 := Lib.hid ho2
        have HDD := Lib.hid hdis
        clear ho1 ho2 hdis hb
        by_cases hkl : k < ids.length
        · obtain ⟨i, hi⟩ : ∃ i, ids[k]? = some i := ⟨_, List.getElem?_eq_getElem hkl⟩
          obtain ⟨bI, oI, hA, hbI, hcI⟩ := HR7.out k i hi
          subst hA
          have hci : wr.cell? ⟨bI, oI + k, none⟩ = some (.int .i64 i) := by
            rw [HB9.out.cell (p := ⟨bI, oI + k, none⟩) hbI]
            have := hcI 0 _ rfl
            simpa using this
          have HI := Lib.hid hi
          clear hcI hi
          go_upto_region 21 with (fail)
          have HIW := Lib.hid (show (Lit.int .i64 i).wf = true from HWI.out i (List.mem_of_getElem? HI.out))
          refine wp_abs (mrgF bx bp bq i (byF B i) (byF L i) (byF R i)) (Box3 wr (byF B i) (byF L i) (byF R i)) ?reg ?beh
          case beh =>
            have HNO := Lib.hid (mOut_next (B := B) (L := L) (R := R) HI.out)
            have HNC := Lib.hid (mCl_next (B := B) (L := L) (R := R) HI.out)
            have HTS := Lib.hid (tk_some GB.out GL.out GR.out (i := i))
            have HTN := Lib.hid (tk_none GB.out GL.out GR.out (i := i))
            have HCG := Lib.hid (cl_get GB.out GL.out GR.out i)
            intro b1 b2 b3 w2 hbx
            have hk400 : k < 400 := Nat.lt_of_lt_of_le hkl HCL.out
            unfold mrgF
            go_simp
            obtain ⟨M, hM⟩ : ∃ M, mOut B L R (ids.take k) = M := ⟨_, rfl⟩
            obtain ⟨C, hC⟩ : ∃ C, mCl B L R (ids.take k) = C := ⟨_, rfl⟩
            have HML := Lib.hid (show M.length ≤ 400 by rw [← hM]; exact Nat.le_trans (List.length_filterMap_le _ _) (Nat.le_trans (List.length_take_le _ _) (Nat.le_trans hk HCL.out)))
            have HCM := Lib.hid (show C.length ≤ 400 by rw [← hC]; exact Nat.le_trans (List.length_filter_le _ _) (Nat.le_trans (List.length_take_le _ _) (Nat.le_trans hk HCL.out)))
            rw [hM] at HD1 HDD HNO ⊢
            rw [hC] at HD2 HDD HNC ⊢
            clear hM hC
            generalize byF B i = x at hbx HTS HTN HCG ⊢
            generalize byF L i = p at hbx HTS HTN HCG ⊢
            generalize byF R i = q at hbx HTS HTN HCG ⊢
            obtain ⟨hb3, hx1, hx2, hx3, n1, n2, n3⟩ := hbx
            have HX2 := Lib.hid hx1
            have l1 := hx1.lt
            have l2 := hx2.lt
            have l3 := hx3.lt
            obtain ⟨W3, hW3⟩ : ∃ y, w2.alloc (.cells (entE x).toArray 40) = y := ⟨_, rfl⟩
            have hn3 : Below w2.heap.size w2 W3 := by rw [← hW3]; exact cur_new _ _
            have HT3 := Lib.hid (show Blk W3 w2.heap.size 40 (entE x) by rw [← hW3]; exact Blk.new w2 _ _)
            have HX3 := Lib.hid (hx1.to hn3)
            have HP3 := Lib.hid (hx2.to hn3)
            have HQ3 := Lib.hid (hx3.to hn3)
            have HB3' := Lib.hid (cur_step1 (cur_step1 HB9.out hb3) hn3)
            have HO1 := Lib.hid (own_below (own_below HD1.out hb3 (Nat.le_refl _)) hn3 (Nat.le_refl _))
            have HO2 := Lib.hid (own_below (own_below HD2.out hb3 (Nat.le_refl _)) hn3 (Nat.le_refl _))
            have HT1 := Lib.hid (show ∀ b, (Value.slice D1 M.length d1).ownBlock = some b → b < w2.heap.size from fun b hb => Nat.lt_of_lt_of_le (own_range HD1.out b hb).2 hb3.size)
            have HT2 := Lib.hid (show ∀ b, (Value.slice D2 C.length d2).ownBlock = some b → b < w2.heap.size from fun b hb => Nat.lt_of_lt_of_le (own_range HD2.out b hb).2 hb3.size)
            have hw72 : w7.heap.size ≤ w2.heap.size := (cur_step1 HB9.out hb3).size
            have S3 := Lib.hid hW3
            have e3 : W3.cell? ⟨w2.heap.size, 0, none⟩ = some (.int .i64 x.id) := by rw [HT3.out.cell]; rfl
            clear hW3 hn3 hb3 hx1 hx2 hx3
            by_cases h1 : p = x
            · have HTE := Lib.hid (show tkE x p q = q by unfold tkE; rw [if_pos h1])
              have HN2 := Lib.hid (show mCl B L R (ids.take (k + 1)) = C by rw [HNC.out, HCG.out]; simp [h1])
              have k1 : ∀ w : World, (binOp .eql 40 (.agg (entE p).toArray) (.agg (entE x).toArray)).run Tryz.prog w = .ok (.bool true) w := fun w => by rw [ent_eql]; simp [h1]
              obtain ⟨W4, hW4⟩ : ∃ y, W3.setRow w2.heap.size (entE q).toArray = y := ⟨_, rfl⟩
              have HT4 := Lib.hid (show Blk W4 w2.heap.size 40 (entE q) by rw [← hW4]; exact blk_row HT3.out _)
              have HB4' := Lib.hid (show Below w7.heap.size w7 W4 by rw [← hW4]; exact row_below HB3'.out (by omega) _)
              have HQ1 := Lib.hid (show OwnL entE 21 40 w7.heap.size W4 (.slice D1 M.length d1) M by rw [← hW4]; exact own_row HO1.out (fun b hb => Nat.ne_of_lt (HT1.out b hb)) _)
              have HQ2 := Lib.hid (show OwnL inE 1 51 w7.heap.size W4 (.slice D2 C.length d2) C by rw [← hW4]; exact own_row HO2.out (fun b hb => Nat.ne_of_lt (HT2.out b hb)) _)
              have S4 := Lib.hid hW4
              have e4 : W4.cell? ⟨w2.heap.size, 0, none⟩ = some (.int .i64 q.id) := by rw [HT4.out.cell]; rfl
              clear hW4 e3
              clear h1
              go_upto_region 24 with (first | (refine wpList_loadC rfl _ 40 rfl b1 40 (entE x) _ rfl (by rfl) (by rfl) (by rfl) HX2.out ?_) | (refine wpList_storeNew rfl _ _ 40 rfl _ (entE x).toArray ent_info (by rfl) (by rfl) rfl (ent_one _) ?_; rw [S3.out]))
              refine wp_region_lit ?_
              refine wpList_loadC rfl _ 40 rfl b2 40 (entE p) _ rfl (by rfl) (by rfl) (by rfl) HP3.out ?_
              refine wpList_loadC rfl _ 40 rfl b1 40 (entE x) _ rfl (by rfl) (by rfl) (by rfl) HX3.out ?_
              (refine wpList_step (fun K hK => ?_); go_simp; refine hK _ _ ?_; clear hK K)
              go_upto_region 25 with (fail)
              refine wp_region_lit ?_
              refine wpList_loadC rfl _ 40 rfl b3 40 (entE q) _ rfl (by rfl) (by rfl) (by rfl) HQ3.out ?_
              refine wpList_storeC rfl _ _ 40 rfl w2.heap.size 40 (entE x) (entE q).toArray ent_info (by rfl) (by rfl) HT3.out (by rfl) (ent_one _) ?_
              rw [S4.out]
              by_cases hid : q.id = 0
              · have gi : (q.id != 0) = false := by simp [hid]
                have HTI := Lib.hid (HTN.out (by rw [HTE.out]; exact hid))
                have HN1 := Lib.hid (show mOut B L R (ids.take (k + 1)) = M by rw [HNO.out, HTI.out]; exact List.append_nil _)
                clear hid
                go_wp2_with (fail)
                refine ⟨⟨k + 1, D1, d1, D2, d2, by omega, rfl, by rw [HN1.out], by rw [HN2.out], ?_, ?_, HDD.out, HB4'.out⟩, by show ids.length - (k + 1) < ids.length - k; omega⟩
                · rw [HN1.out]; exact HQ1.out
                · rw [HN2.out]; exact HQ2.out
              · have gi : (q.id != 0) = true := by simpa using hid
                have HTI := Lib.hid (HTS.out (by rw [HTE.out]; exact hid))
                have HN1 := Lib.hid (show mOut B L R (ids.take (k + 1)) = M ++ [q] by rw [HNO.out, HTI.out, HTE.out]; rfl)
                clear hid
                go_upto_region 29 with (fail)
                refine wp_region_lit ?_
                (refine wpList_step (fun K hK => ?_); go_simp; refine hK _ _ ?_; clear hK K)
                refine wpList_loadC rfl _ 40 rfl w2.heap.size 40 (entE q) _ (by rfl) (by rfl) (by rfl) (by rfl) HT4.out ?_
                refine wpList_buildE Tryz.enElem rfl 1 _ rfl [q] rfl (by decide) (by decide) (by rfl) ?_
                rw [show [q].flatMap entE = entE q from List.append_nil _]
                obtain ⟨W7, hW7⟩ : ∃ y, W4.alloc (.cells (entE q).toArray 40) = y := ⟨_, rfl⟩
                have hb7 : Below W4.heap.size W4 W7 := by rw [← hW7]; exact cur_new _ _
                have hk7 : W7.heap[W4.heap.size]? = some (.cells (entE q).toArray 40 (0, 0)) := by rw [← hW7]; exact heap_alloc_new _ _
                rw [hW7]
                clear hW7
                have HO27 := Lib.hid (own_below HQ2.out hb7 (Nat.le_refl _))
                refine wpList_app1 Tryz.enElem W7 rfl (.tmp 101) (.tmp 103) rfl w7.heap.size D1 d1 M (by rfl) (own_below HQ1.out hb7 (Nat.le_refl _)) q W4.heap.size 1 (by rfl) hk7 (by have := HML.out; unfold maxLen; omega) (by have := HML.out; omega) ((cur_step1 HB4'.out hb7).size) ?_
                intro g2 cap w8 ha
                have HB8 := Lib.hid (show Below w7.heap.size w7 w8 from (cur_step1 HB4'.out hb7).grown ha.grown (cur_step1 HB4'.out hb7).size (own_base HQ1.out))
                have HO8 := Lib.hid (show OwnL entE 21 40 w7.heap.size w8 (.slice (some ⟨g2, 0, none⟩) (M.length + 1) cap) (M ++ [q]) from ha.one rfl)
                have HO28 := Lib.hid (own_grown HO27.out ha.grown (fun b hb e => HDD.out b hb e.symm))
                have HD8 := Lib.hid (show ∀ b, (Value.slice D2 C.length d2).ownBlock = some b → (Value.slice (some ⟨g2, 0, none⟩) (M.length + 1) cap).ownBlock ≠ some b from fun b hb e => by
                  rcases ha.at_ with h | h
                  · exact HDD.out b hb (h.trans e)
                  · exact absurd (own_range HO27.out b hb).2 (by rw [← Option.some.inj e, h]; exact Nat.lt_irrefl _))
                clear ha hk7 hb7
                go_wp2_with (fail)
                refine ⟨⟨k + 1, some ⟨g2, 0, none⟩, cap, D2, d2, by omega, rfl, by rw [HN1.out, List.length_append]; rfl, by rw [HN2.out], ?_, ?_, HD8.out, HB8.out⟩, by show ids.length - (k + 1) < ids.length - k; omega⟩
                · rw [HN1.out]; exact HO8.out
                · rw [HN2.out]; exact HO28.out
            · by_cases h2 : q = x
              · have HTE := Lib.hid (show tkE x p q = p by unfold tkE; rw [if_neg h1, if_pos (Or.inl h2)])
                have HN2 := Lib.hid (show mCl B L R (ids.take (k + 1)) = C by rw [HNC.out, HCG.out]; simp [h1, h2])
                have k1 : ∀ w : World, (binOp .eql 40 (.agg (entE p).toArray) (.agg (entE x).toArray)).run Tryz.prog w = .ok (.bool false) w := fun w => by rw [ent_eql]; simp [h1]
                have k2 : ∀ w : World, (binOp .eql 40 (.agg (entE q).toArray) (.agg (entE x).toArray)).run Tryz.prog w = .ok (.bool true) w := fun w => by rw [ent_eql]; simp [h2]
                obtain ⟨W4, hW4⟩ : ∃ y, W3.setRow w2.heap.size (entE p).toArray = y := ⟨_, rfl⟩
                have HT4 := Lib.hid (show Blk W4 w2.heap.size 40 (entE p) by rw [← hW4]; exact blk_row HT3.out _)
                have HB4' := Lib.hid (show Below w7.heap.size w7 W4 by rw [← hW4]; exact row_below HB3'.out (by omega) _)
                have HQ1 := Lib.hid (show OwnL entE 21 40 w7.heap.size W4 (.slice D1 M.length d1) M by rw [← hW4]; exact own_row HO1.out (fun b hb => Nat.ne_of_lt (HT1.out b hb)) _)
                have HQ2 := Lib.hid (show OwnL inE 1 51 w7.heap.size W4 (.slice D2 C.length d2) C by rw [← hW4]; exact own_row HO2.out (fun b hb => Nat.ne_of_lt (HT2.out b hb)) _)
                have S4 := Lib.hid hW4
                have e4 : W4.cell? ⟨w2.heap.size, 0, none⟩ = some (.int .i64 p.id) := by rw [HT4.out.cell]; rfl
                clear hW4 e3
                clear h1 h2
                go_upto_region 24 with (first | (refine wpList_loadC rfl _ 40 rfl b1 40 (entE x) _ rfl (by rfl) (by rfl) (by rfl) HX2.out ?_) | (refine wpList_storeNew rfl _ _ 40 rfl _ (entE x).toArray ent_info (by rfl) (by rfl) rfl (ent_one _) ?_; rw [S3.out]))
                refine wp_region_lit ?_
                refine wpList_loadC rfl _ 40 rfl b2 40 (entE p) _ rfl (by rfl) (by rfl) (by rfl) HP3.out ?_
                refine wpList_loadC rfl _ 40 rfl b1 40 (entE x) _ rfl (by rfl) (by rfl) (by rfl) HX3.out ?_
                (refine wpList_step (fun K hK => ?_); go_simp; refine hK _ _ ?_; clear hK K)
                go_upto_region 26 with (fail)
                refine wp_region_lit ?_
                refine wpList_loadC rfl _ 40 rfl b3 40 (entE q) _ rfl (by rfl) (by rfl) (by rfl) HQ3.out ?_
                refine wpList_loadC rfl _ 40 rfl b1 40 (entE x) _ rfl (by rfl) (by rfl) (by rfl) HX3.out ?_
                (refine wpList_step (fun K hK => ?_); go_simp; refine hK _ _ ?_; clear hK K)
                (refine wpList_step (fun K hK => ?_); go_simp; refine hK _ _ ?_; clear hK K)
                go_upto_region 27 with (fail)
                refine wp_region_lit ?_
                refine wpList_loadC rfl _ 40 rfl b2 40 (entE p) _ rfl (by rfl) (by rfl) (by rfl) HP3.out ?_
                refine wpList_storeC rfl _ _ 40 rfl w2.heap.size 40 (entE x) (entE p).toArray ent_info (by rfl) (by rfl) HT3.out (by rfl) (ent_one _) ?_
                rw [S4.out]
                by_cases hid : p.id = 0
                · have gi : (p.id != 0) = false := by simp [hid]
                  have HTI := Lib.hid (HTN.out (by rw [HTE.out]; exact hid))
                  have HN1 := Lib.hid (show mOut B L R (ids.take (k + 1)) = M by rw [HNO.out, HTI.out]; exact List.append_nil _)
                  clear hid
                  go_wp2_with (fail)
                  refine ⟨⟨k + 1, D1, d1, D2, d2, by omega, rfl, by rw [HN1.out], by rw [HN2.out], ?_, ?_, HDD.out, HB4'.out⟩, by show ids.length - (k + 1) < ids.length - k; omega⟩
                  · rw [HN1.out]; exact HQ1.out
                  · rw [HN2.out]; exact HQ2.out
                · have gi : (p.id != 0) = true := by simpa using hid
                  have HTI := Lib.hid (HTS.out (by rw [HTE.out]; exact hid))
                  have HN1 := Lib.hid (show mOut B L R (ids.take (k + 1)) = M ++ [p] by rw [HNO.out, HTI.out, HTE.out]; rfl)
                  clear hid
                  go_upto_region 29 with (fail)
                  refine wp_region_lit ?_
                  (refine wpList_step (fun K hK => ?_); go_simp; refine hK _ _ ?_; clear hK K)
                  refine wpList_loadC rfl _ 40 rfl w2.heap.size 40 (entE p) _ (by rfl) (by rfl) (by rfl) (by rfl) HT4.out ?_
                  refine wpList_buildE Tryz.enElem rfl 1 _ rfl [p] rfl (by decide) (by decide) (by rfl) ?_
                  rw [show [p].flatMap entE = entE p from List.append_nil _]
                  obtain ⟨W7, hW7⟩ : ∃ y, W4.alloc (.cells (entE p).toArray 40) = y := ⟨_, rfl⟩
                  have hb7 : Below W4.heap.size W4 W7 := by rw [← hW7]; exact cur_new _ _
                  have hk7 : W7.heap[W4.heap.size]? = some (.cells (entE p).toArray 40 (0, 0)) := by rw [← hW7]; exact heap_alloc_new _ _
                  rw [hW7]
                  clear hW7
                  have HO27 := Lib.hid (own_below HQ2.out hb7 (Nat.le_refl _))
                  refine wpList_app1 Tryz.enElem W7 rfl (.tmp 101) (.tmp 103) rfl w7.heap.size D1 d1 M (by rfl) (own_below HQ1.out hb7 (Nat.le_refl _)) p W4.heap.size 1 (by rfl) hk7 (by have := HML.out; unfold maxLen; omega) (by have := HML.out; omega) ((cur_step1 HB4'.out hb7).size) ?_
                  intro g2 cap w8 ha
                  have HB8 := Lib.hid (show Below w7.heap.size w7 w8 from (cur_step1 HB4'.out hb7).grown ha.grown (cur_step1 HB4'.out hb7).size (own_base HQ1.out))
                  have HO8 := Lib.hid (show OwnL entE 21 40 w7.heap.size w8 (.slice (some ⟨g2, 0, none⟩) (M.length + 1) cap) (M ++ [p]) from ha.one rfl)
                  have HO28 := Lib.hid (own_grown HO27.out ha.grown (fun b hb e => HDD.out b hb e.symm))
                  have HD8 := Lib.hid (show ∀ b, (Value.slice D2 C.length d2).ownBlock = some b → (Value.slice (some ⟨g2, 0, none⟩) (M.length + 1) cap).ownBlock ≠ some b from fun b hb e => by
                    rcases ha.at_ with h | h
                    · exact HDD.out b hb (h.trans e)
                    · exact absurd (own_range HO27.out b hb).2 (by rw [← Option.some.inj e, h]; exact Nat.lt_irrefl _))
                  clear ha hk7 hb7
                  go_wp2_with (fail)
                  refine ⟨⟨k + 1, some ⟨g2, 0, none⟩, cap, D2, d2, by omega, rfl, by rw [HN1.out, List.length_append]; rfl, by rw [HN2.out], ?_, ?_, HD8.out, HB8.out⟩, by show ids.length - (k + 1) < ids.length - k; omega⟩
                  · rw [HN1.out]; exact HO8.out
                  · rw [HN2.out]; exact HO28.out
              · by_cases h3 : q = p
                · have HTE := Lib.hid (show tkE x p q = p by unfold tkE; rw [if_neg h1, if_pos (Or.inr h3)])
                  have HN2 := Lib.hid (show mCl B L R (ids.take (k + 1)) = C by rw [HNC.out, HCG.out]; simp [h1, h2, h3])
                  have k1 : ∀ w : World, (binOp .eql 40 (.agg (entE p).toArray) (.agg (entE x).toArray)).run Tryz.prog w = .ok (.bool false) w := fun w => by rw [ent_eql]; simp [h1]
                  have k2 : ∀ w : World, (binOp .eql 40 (.agg (entE q).toArray) (.agg (entE x).toArray)).run Tryz.prog w = .ok (.bool false) w := fun w => by rw [ent_eql]; simp [h2]
                  have k3 : ∀ w : World, (binOp .eql 40 (.agg (entE q).toArray) (.agg (entE p).toArray)).run Tryz.prog w = .ok (.bool true) w := fun w => by rw [ent_eql]; simp [h3]
                  obtain ⟨W4, hW4⟩ : ∃ y, W3.setRow w2.heap.size (entE p).toArray = y := ⟨_, rfl⟩
                  have HT4 := Lib.hid (show Blk W4 w2.heap.size 40 (entE p) by rw [← hW4]; exact blk_row HT3.out _)
                  have HB4' := Lib.hid (show Below w7.heap.size w7 W4 by rw [← hW4]; exact row_below HB3'.out (by omega) _)
                  have HQ1 := Lib.hid (show OwnL entE 21 40 w7.heap.size W4 (.slice D1 M.length d1) M by rw [← hW4]; exact own_row HO1.out (fun b hb => Nat.ne_of_lt (HT1.out b hb)) _)
                  have HQ2 := Lib.hid (show OwnL inE 1 51 w7.heap.size W4 (.slice D2 C.length d2) C by rw [← hW4]; exact own_row HO2.out (fun b hb => Nat.ne_of_lt (HT2.out b hb)) _)
                  have S4 := Lib.hid hW4
                  have e4 : W4.cell? ⟨w2.heap.size, 0, none⟩ = some (.int .i64 p.id) := by rw [HT4.out.cell]; rfl
                  clear hW4 e3
                  clear h1 h2 h3
                  go_upto_region 24 with (first | (refine wpList_loadC rfl _ 40 rfl b1 40 (entE x) _ rfl (by rfl) (by rfl) (by rfl) HX2.out ?_) | (refine wpList_storeNew rfl _ _ 40 rfl _ (entE x).toArray ent_info (by rfl) (by rfl) rfl (ent_one _) ?_; rw [S3.out]))
                  refine wp_region_lit ?_
                  refine wpList_loadC rfl _ 40 rfl b2 40 (entE p) _ rfl (by rfl) (by rfl) (by rfl) HP3.out ?_
                  refine wpList_loadC rfl _ 40 rfl b1 40 (entE x) _ rfl (by rfl) (by rfl) (by rfl) HX3.out ?_
                  (refine wpList_step (fun K hK => ?_); go_simp; refine hK _ _ ?_; clear hK K)
                  go_upto_region 26 with (fail)
                  refine wp_region_lit ?_
                  refine wpList_loadC rfl _ 40 rfl b3 40 (entE q) _ rfl (by rfl) (by rfl) (by rfl) HQ3.out ?_
                  refine wpList_loadC rfl _ 40 rfl b1 40 (entE x) _ rfl (by rfl) (by rfl) (by rfl) HX3.out ?_
                  (refine wpList_step (fun K hK => ?_); go_simp; refine hK _ _ ?_; clear hK K)
                  (refine wpList_step (fun K hK => ?_); go_simp; refine hK _ _ ?_; clear hK K)
                  refine wpList_load_g (by rfl) 40 _ rfl b3 (by rfl) 40 (entE q).toArray (0, 0) _ HQ3.out Tryz.underlying40 rfl ent_info ?_
                  refine wpList_load_g (by rfl) 40 _ rfl b2 (by rfl) 40 (entE p).toArray (0, 0) _ HP3.out Tryz.underlying40 rfl ent_info ?_
                  (refine wpList_step (fun K hK => ?_); go_simp; refine hK _ _ ?_; clear hK K)
                  go_upto_region 27 with (fail)
                  refine wp_region_lit ?_
                  refine wpList_loadC rfl _ 40 rfl b2 40 (entE p) _ rfl (by rfl) (by rfl) (by rfl) HP3.out ?_
                  refine wpList_storeC rfl _ _ 40 rfl w2.heap.size 40 (entE x) (entE p).toArray ent_info (by rfl) (by rfl) HT3.out (by rfl) (ent_one _) ?_
                  rw [S4.out]
                  by_cases hid : p.id = 0
                  · have gi : (p.id != 0) = false := by simp [hid]
                    have HTI := Lib.hid (HTN.out (by rw [HTE.out]; exact hid))
                    have HN1 := Lib.hid (show mOut B L R (ids.take (k + 1)) = M by rw [HNO.out, HTI.out]; exact List.append_nil _)
                    clear hid
                    go_wp2_with (fail)
                    refine ⟨⟨k + 1, D1, d1, D2, d2, by omega, rfl, by rw [HN1.out], by rw [HN2.out], ?_, ?_, HDD.out, HB4'.out⟩, by show ids.length - (k + 1) < ids.length - k; omega⟩
                    · rw [HN1.out]; exact HQ1.out
                    · rw [HN2.out]; exact HQ2.out
                  · have gi : (p.id != 0) = true := by simpa using hid
                    have HTI := Lib.hid (HTS.out (by rw [HTE.out]; exact hid))
                    have HN1 := Lib.hid (show mOut B L R (ids.take (k + 1)) = M ++ [p] by rw [HNO.out, HTI.out, HTE.out]; rfl)
                    clear hid
                    go_upto_region 29 with (fail)
                    refine wp_region_lit ?_
                    (refine wpList_step (fun K hK => ?_); go_simp; refine hK _ _ ?_; clear hK K)
                    refine wpList_loadC rfl _ 40 rfl w2.heap.size 40 (entE p) _ (by rfl) (by rfl) (by rfl) (by rfl) HT4.out ?_
                    refine wpList_buildE Tryz.enElem rfl 1 _ rfl [p] rfl (by decide) (by decide) (by rfl) ?_
                    rw [show [p].flatMap entE = entE p from List.append_nil _]
                    obtain ⟨W7, hW7⟩ : ∃ y, W4.alloc (.cells (entE p).toArray 40) = y := ⟨_, rfl⟩
                    have hb7 : Below W4.heap.size W4 W7 := by rw [← hW7]; exact cur_new _ _
                    have hk7 : W7.heap[W4.heap.size]? = some (.cells (entE p).toArray 40 (0, 0)) := by rw [← hW7]; exact heap_alloc_new _ _
                    rw [hW7]
                    clear hW7
                    have HO27 := Lib.hid (own_below HQ2.out hb7 (Nat.le_refl _))
                    refine wpList_app1 Tryz.enElem W7 rfl (.tmp 101) (.tmp 103) rfl w7.heap.size D1 d1 M (by rfl) (own_below HQ1.out hb7 (Nat.le_refl _)) p W4.heap.size 1 (by rfl) hk7 (by have := HML.out; unfold maxLen; omega) (by have := HML.out; omega) ((cur_step1 HB4'.out hb7).size) ?_
                    intro g2 cap w8 ha
                    have HB8 := Lib.hid (show Below w7.heap.size w7 w8 from (cur_step1 HB4'.out hb7).grown ha.grown (cur_step1 HB4'.out hb7).size (own_base HQ1.out))
                    have HO8 := Lib.hid (show OwnL entE 21 40 w7.heap.size w8 (.slice (some ⟨g2, 0, none⟩) (M.length + 1) cap) (M ++ [p]) from ha.one rfl)
                    have HO28 := Lib.hid (own_grown HO27.out ha.grown (fun b hb e => HDD.out b hb e.symm))
                    have HD8 := Lib.hid (show ∀ b, (Value.slice D2 C.length d2).ownBlock = some b → (Value.slice (some ⟨g2, 0, none⟩) (M.length + 1) cap).ownBlock ≠ some b from fun b hb e => by
                      rcases ha.at_ with h | h
                      · exact HDD.out b hb (h.trans e)
                      · exact absurd (own_range HO27.out b hb).2 (by rw [← Option.some.inj e, h]; exact Nat.lt_irrefl _))
                    clear ha hk7 hb7
                    go_wp2_with (fail)
                    refine ⟨⟨k + 1, some ⟨g2, 0, none⟩, cap, D2, d2, by omega, rfl, by rw [HN1.out, List.length_append]; rfl, by rw [HN2.out], ?_, ?_, HD8.out, HB8.out⟩, by show ids.length - (k + 1) < ids.length - k; omega⟩
                    · rw [HN1.out]; exact HO8.out
                    · rw [HN2.out]; exact HO28.out
                · have HTE := Lib.hid (show tkE x p q = x by unfold tkE; rw [if_neg h1, if_neg (by rintro (h | h); exact h2 h; exact h3 h)])
                  have HN2 := Lib.hid (show mCl B L R (ids.take (k + 1)) = C ++ [i] by rw [HNC.out, HCG.out]; simp [h1, h2, h3])
                  have k1 : ∀ w : World, (binOp .eql 40 (.agg (entE p).toArray) (.agg (entE x).toArray)).run Tryz.prog w = .ok (.bool false) w := fun w => by rw [ent_eql]; simp [h1]
                  have k2 : ∀ w : World, (binOp .eql 40 (.agg (entE q).toArray) (.agg (entE x).toArray)).run Tryz.prog w = .ok (.bool false) w := fun w => by rw [ent_eql]; simp [h2]
                  have k3 : ∀ w : World, (binOp .eql 40 (.agg (entE q).toArray) (.agg (entE p).toArray)).run Tryz.prog w = .ok (.bool false) w := fun w => by rw [ent_eql]; simp [h3]
                  clear h1 h2 h3
                  go_upto_region 24 with (first | (refine wpList_loadC rfl _ 40 rfl b1 40 (entE x) _ rfl (by rfl) (by rfl) (by rfl) HX2.out ?_) | (refine wpList_storeNew rfl _ _ 40 rfl _ (entE x).toArray ent_info (by rfl) (by rfl) rfl (ent_one _) ?_; rw [S3.out]))
                  refine wp_region_lit ?_
                  refine wpList_loadC rfl _ 40 rfl b2 40 (entE p) _ rfl (by rfl) (by rfl) (by rfl) HP3.out ?_
                  refine wpList_loadC rfl _ 40 rfl b1 40 (entE x) _ rfl (by rfl) (by rfl) (by rfl) HX3.out ?_
                  (refine wpList_step (fun K hK => ?_); go_simp; refine hK _ _ ?_; clear hK K)
                  go_upto_region 26 with (fail)
                  refine wp_region_lit ?_
                  refine wpList_loadC rfl _ 40 rfl b3 40 (entE q) _ rfl (by rfl) (by rfl) (by rfl) HQ3.out ?_
                  refine wpList_loadC rfl _ 40 rfl b1 40 (entE x) _ rfl (by rfl) (by rfl) (by rfl) HX3.out ?_
                  (refine wpList_step (fun K hK => ?_); go_simp; refine hK _ _ ?_; clear hK K)
                  (refine wpList_step (fun K hK => ?_); go_simp; refine hK _ _ ?_; clear hK K)
                  refine wpList_load_g (by rfl) 40 _ rfl b3 (by rfl) 40 (entE q).toArray (0, 0) _ HQ3.out Tryz.underlying40 rfl ent_info ?_
                  refine wpList_load_g (by rfl) 40 _ rfl b2 (by rfl) 40 (entE p).toArray (0, 0) _ HP3.out Tryz.underlying40 rfl ent_info ?_
                  (refine wpList_step (fun K hK => ?_); go_simp; refine hK _ _ ?_; clear hK K)
                  go_upto_region 23 with (fail)
                  refine wp_region_lit ?_
                  (refine wpList_step (fun K hK => ?_); go_simp; refine hK _ _ ?_; clear hK K)
                  (refine wpList_step (fun K hK => ?_); go_simp; refine hK _ _ ?_; clear hK K)
                  (refine wpList_step (fun K hK => ?_); go_simp; refine hK _ _ ?_; clear hK K)
                  refine wpList_buildE Tryz.clElem rfl 1 _ rfl [i] rfl (by decide) (by decide) (by rfl) ?_
                  rw [show [i].flatMap inE = inE i from List.append_nil _]
                  obtain ⟨W6, hW6⟩ : ∃ y, W3.alloc (.cells (inE i).toArray 51) = y := ⟨_, rfl⟩
                  have hb6 : Below W3.heap.size W3 W6 := by rw [← hW6]; exact cur_new _ _
                  have hk6 : W6.heap[W3.heap.size]? = some (.cells (inE i).toArray 51 (0, 0)) := by rw [← hW6]; exact heap_alloc_new _ _
                  rw [hW6]
                  clear hW6
                  refine wpList_app1 Tryz.clElem W6 rfl (.tmp 78) (.tmp 81) rfl w7.heap.size D2 d2 C (by rfl) (own_below HO2.out hb6 (Nat.le_refl _)) i W3.heap.size 1 (by rfl) hk6 (by have := HCM.out; unfold maxLen; omega) (by have := HCM.out; omega) ((cur_step1 HB3'.out hb6).size) ?_
                  intro g3 cap3 W4 ha
                  have HO16 := Lib.hid (own_below HO1.out hb6 (Nat.le_refl _))
                  have HB4' := Lib.hid (show Below w7.heap.size w7 W4 from (cur_step1 HB3'.out hb6).grown ha.grown (cur_step1 HB3'.out hb6).size (own_base HO2.out))
                  have HQ2 := Lib.hid (show OwnL inE 1 51 w7.heap.size W4 (.slice (some ⟨g3, 0, none⟩) (C.length + 1) cap3) (C ++ [i]) from ha.one rfl)
                  have HQ1 := Lib.hid (own_grown HO16.out ha.grown (fun b hb e => HDD.out b e.symm hb))
                  have HT4 := Lib.hid (blk_grown (HT3.out.to hb6) ha.grown (fun e => by have := HT2.out _ e.symm; omega))
                  have HDD4 := Lib.hid (show ∀ b, (Value.slice (some ⟨g3, 0, none⟩) (C ++ [i]).length cap3).ownBlock = some b → (Value.slice D1 M.length d1).ownBlock ≠ some b from fun b hb e => by
                    rcases ha.at_ with h | h
                    · exact HDD.out b (h.trans hb) e
                    · exact absurd (own_range HO16.out b e).2 (by rw [← Option.some.inj hb, h]; exact Nat.lt_irrefl _))
                  have e4 : W4.cell? ⟨w2.heap.size, 0, none⟩ = some (.int .i64 x.id) := by rw [HT4.out.cell]; rfl
                  clear ha hk6 hb6 e3
                  by_cases hid : x.id = 0
                  · have gi : (x.id != 0) = false := by simp [hid]
                    have HTI := Lib.hid (HTN.out (by rw [HTE.out]; exact hid))
                    have HN1 := Lib.hid (show mOut B L R (ids.take (k + 1)) = M by rw [HNO.out, HTI.out]; exact List.append_nil _)
                    clear hid
                    go_wp2_with (fail)
                    refine ⟨⟨k + 1, D1, d1, (some ⟨g3, 0, none⟩), cap3, by omega, rfl, by rw [HN1.out], by rw [HN2.out, List.length_append]; rfl, ?_, ?_, HDD4.out, HB4'.out⟩, by show ids.length - (k + 1) < ids.length - k; omega⟩
                    · rw [HN1.out]; exact HQ1.out
                    · rw [HN2.out]; exact HQ2.out
                  · have gi : (x.id != 0) = true := by simpa using hid
                    have HTI := Lib.hid (HTS.out (by rw [HTE.out]; exact hid))
                    have HN1 := Lib.hid (show mOut B L R (ids.take (k + 1)) = M ++ [x] by rw [HNO.out, HTI.out, HTE.out]; rfl)
                    clear hid
                    go_upto_region 29 with (fail)
                    refine wp_region_lit ?_
                    (refine wpList_step (fun K hK => ?_); go_simp; refine hK _ _ ?_; clear hK K)
                    refine wpList_loadC rfl _ 40 rfl w2.heap.size 40 (entE x) _ (by rfl) (by rfl) (by rfl) (by rfl) HT4.out ?_
                    refine wpList_buildE Tryz.enElem rfl 1 _ rfl [x] rfl (by decide) (by decide) (by rfl) ?_
                    rw [show [x].flatMap entE = entE x from List.append_nil _]
                    obtain ⟨W7, hW7⟩ : ∃ y, W4.alloc (.cells (entE x).toArray 40) = y := ⟨_, rfl⟩
                    have hb7 : Below W4.heap.size W4 W7 := by rw [← hW7]; exact cur_new _ _
                    have hk7 : W7.heap[W4.heap.size]? = some (.cells (entE x).toArray 40 (0, 0)) := by rw [← hW7]; exact heap_alloc_new _ _
                    rw [hW7]
                    clear hW7
                    have HO27 := Lib.hid (own_below HQ2.out hb7 (Nat.le_refl _))
                    refine wpList_app1 Tryz.enElem W7 rfl (.tmp 101) (.tmp 103) rfl w7.heap.size D1 d1 M (by rfl) (own_below HQ1.out hb7 (Nat.le_refl _)) x W4.heap.size 1 (by rfl) hk7 (by have := HML.out; unfold maxLen; omega) (by have := HML.out; omega) ((cur_step1 HB4'.out hb7).size) ?_
                    intro g2 cap w8 ha
                    have HB8 := Lib.hid (show Below w7.heap.size w7 w8 from (cur_step1 HB4'.out hb7).grown ha.grown (cur_step1 HB4'.out hb7).size (own_base HQ1.out))
                    have HO8 := Lib.hid (show OwnL entE 21 40 w7.heap.size w8 (.slice (some ⟨g2, 0, none⟩) (M.length + 1) cap) (M ++ [x]) from ha.one rfl)
                    have HO28 := Lib.hid (own_grown HO27.out ha.grown (fun b hb e => HDD4.out b hb e.symm))
                    have HD8 := Lib.hid (show ∀ b, (Value.slice (some ⟨g3, 0, none⟩) (C ++ [i]).length cap3).ownBlock = some b → (Value.slice (some ⟨g2, 0, none⟩) (M.length + 1) cap).ownBlock ≠ some b from fun b hb e => by
                      rcases ha.at_ with h | h
                      · exact HDD4.out b hb (h.trans e)
                      · exact absurd (own_range HO27.out b hb).2 (by rw [← Option.some.inj e, h]; exact Nat.lt_irrefl _))
                    clear ha hk7 hb7
                    go_wp2_with (fail)
                    refine ⟨⟨k + 1, some ⟨g2, 0, none⟩, cap, (some ⟨g3, 0, none⟩), cap3, by omega, rfl, by rw [HN1.out, List.length_append]; rfl, by rw [HN2.out, List.length_append]; rfl, ?_, ?_, HD8.out, HB8.out⟩, by show ids.length - (k + 1) < ids.length - k; omega⟩
                    · rw [HN1.out]; exact HO8.out
                    · rw [HN2.out]; exact HO28.out
          refine wp_region_held_drew (S := fun w' => EntM w' bx nx (byF B) ∧ EntM w' bp np (byF L) ∧ EntM w' bq nq (byF R)) (by kernel_rfl) ⟨HMX7.out.to HB9.out.drew, HMP7.out.to HB9.out.drew, HMQ7.out.to HB9.out.drew⟩ (fun hS => ?_)
          have HS := Lib.hid hS
          refine wpAnyH_take (i := 0) (v := ?_) rfl (by kernel_rfl) (by kernel_rfl) (by kernel_rfl) (fun _ _ _ h => nomatch h.1) (Or.inl ⟨by rfl, ?_⟩) hS ?_
          rotate_left
          · intro w' _
            go_simp
            try with_reducible rfl
          refine wpAnyH_take (i := 1) (v := ?_) rfl (by kernel_rfl) (by kernel_rfl) (by kernel_rfl) (fun _ _ _ h => nomatch h.1) (Or.inl ⟨by rfl, ?_⟩) hS ?_
          rotate_left
          · intro w' _
            go_simp
            try with_reducible rfl
          refine wpAnyH_take (i := 2) (v := .agg (entE (byF B i)).toArray) rfl (by kernel_rfl) (by kernel_rfl) (by kernel_rfl) (fun _ _ _ h => nomatch h.1) (Or.inl ⟨by rfl, ?_⟩) hS ?_
          · intro w' hw'
            have h1 := EntM.lookup hw'.1 HIW.out
            go_simp
          refine wpAnyH_take (i := 3) (v := ?_) rfl (by kernel_rfl) (by kernel_rfl) (by kernel_rfl) (fun _ _ _ h => nomatch h.1) (Or.inl ⟨by rfl, ?_⟩) hS ?_
          rotate_left
          · intro w' _
            go_simp
            try with_reducible rfl
          refine wpAnyH_take (i := 4) (v := ?_) rfl (by kernel_rfl) (by kernel_rfl) (by kernel_rfl) (fun _ _ _ h => nomatch h.1) (Or.inl ⟨by rfl, ?_⟩) hS ?_
          rotate_left
          · intro w' _
            go_simp
            try with_reducible rfl
          refine wpAnyH_take (i := 5) (v := .agg (entE (byF L i)).toArray) rfl (by kernel_rfl) (by kernel_rfl) (by kernel_rfl) (fun _ _ _ h => nomatch h.1) (Or.inl ⟨by rfl, ?_⟩) hS ?_
          · intro w' hw'
            have h1 := EntM.lookup hw'.2.1 HIW.out
            go_simp
          refine wpAnyH_take (i := 6) (v := ?_) rfl (by kernel_rfl) (by kernel_rfl) (by kernel_rfl) (fun _ _ _ h => nomatch h.1) (Or.inl ⟨by rfl, ?_⟩) hS ?_
          rotate_left
          · intro w' _
            go_simp
            try with_reducible rfl
          refine wpAnyH_take (i := 7) (v := ?_) rfl (by kernel_rfl) (by kernel_rfl) (by kernel_rfl) (fun _ _ _ h => nomatch h.1) (Or.inl ⟨by rfl, ?_⟩) hS ?_
          rotate_left
          · intro w' _
            go_simp
            try with_reducible rfl
          refine wpAnyH_take (i := 8) (v := .agg (entE (byF R i)).toArray) rfl (by kernel_rfl) (by kernel_rfl) (by kernel_rfl) (fun _ _ _ h => nomatch h.1) (Or.inl ⟨by rfl, ?_⟩) hS ?_
          · intro w' hw'
            have h1 := EntM.lookup hw'.2.2 HIW.out
            go_simp
          have hkeep : ∀ (W : World) (o : Obj), (EntM W bx nx (byF B) ∧ EntM W bp np (byF L) ∧ EntM W bq nq (byF R)) → EntM (W.alloc o) bx nx (byF B) ∧ EntM (W.alloc o) bp np (byF L) ∧ EntM (W.alloc o) bq nq (byF R) := fun W o h => ⟨h.1.to (cur_new _ _), h.2.1.to (cur_new _ _), h.2.2.to (cur_new _ _)⟩
          have HS0 := HS
          obtain ⟨W0, hW0⟩ : ∃ y, wr.drew = y := ⟨_, rfl⟩
          rw [hW0] at HS0 ⊢
          have hkeep2 : ∀ (W : World) (g : Nat) (ys : Array Value), W0.heap.size ≤ g → (EntM W bx nx (byF B) ∧ EntM W bp np (byF L) ∧ EntM W bq nq (byF R)) → EntM (W.setRow g ys) bx nx (byF B) ∧ EntM (W.setRow g ys) bp np (byF L) ∧ EntM (W.setRow g ys) bq nq (byF R) := fun W g ys hg h =>
            ⟨h.1.row (by have := HS0.out.1.lt; omega) ys, h.2.1.row (by have := HS0.out.2.1.lt; omega) ys, h.2.2.row (by have := HS0.out.2.2.lt; omega) ys⟩
          have HW0 := Lib.hid (show Below wr.heap.size wr W0 by rw [← hW0]; exact cur_drew wr 1)
          obtain ⟨W3, hW3⟩ : ∃ y, ((W0.alloc (Obj.cells #[.int .i64 0, .int .u8 0, .int .i64 0, .int .i64 0, .int .i64 0, .bool false, .int .i64 0, .int .i64 0, .int .u8 0, .int .u8 0, .int .i64 0, .int .i64 0, .int .i64 0, .bool false, .int .u8 0, .int .i64 0, .int .i64 0, .int .i64 0, .bool false, .int .i64 0, .string { data := #[] }] 40)).alloc (Obj.cells #[.int .i64 0, .int .u8 0, .int .i64 0, .int .i64 0, .int .i64 0, .bool false, .int .i64 0, .int .i64 0, .int .u8 0, .int .u8 0, .int .i64 0, .int .i64 0, .int .i64 0, .bool false, .int .u8 0, .int .i64 0, .int .i64 0, .int .i64 0, .bool false, .int .i64 0, .string { data := #[] }] 40)).alloc (Obj.cells #[.int .i64 0, .int .u8 0, .int .i64 0, .int .i64 0, .int .i64 0, .bool false, .int .i64 0, .int .i64 0, .int .u8 0, .int .u8 0, .int .i64 0, .int .i64 0, .int .i64 0, .bool false, .int .u8 0, .int .i64 0, .int .i64 0, .int .i64 0, .bool false, .int .i64 0, .string { data := #[] }] 40) = y := ⟨_, rfl⟩
          have HZ1 := Lib.hid (show Blk W3 W0.heap.size 40 (entE zEnt) by rw [← hW3]; exact ((Blk.new W0 _ _).to (cur_new _ _)).to (cur_new _ _))
          have HZ2 := Lib.hid (show Blk W3 (W0.heap.size + 1) 40 (entE zEnt) by rw [← hW3]; exact Blk.to (two_new W0 _ _) (cur_new _ _))
          have HZ3 := Lib.hid (show Blk W3 (W0.heap.size + 1 + 1) 40 (entE zEnt) by rw [← hW3]; exact three_new W0 _ _ _)
          have HZB := Lib.hid (show Below wr.heap.size wr W3 by rw [← hW3]; exact cur_step1 (cur_step1 (cur_step1 HW0.out (cur_new _ _)) (cur_new _ _)) (cur_new _ _))
          have HW3 := Lib.hid hW3
          clear hW3
          refine wpAnyH_ready (rs := [9, 10, 11]) (by kernel_rfl) (by simp) ?_
          refine AllReadyH.cons rfl (fun K' hK => ?_) (AllReadyH.cons rfl (fun K' hK => ?_) (AllReadyH.cons rfl (fun K' hK => ?_) (AllReadyH.nil)))
          · go_simp
            refine hK.out _ _ (hkeep _ _ HS0.out) (fun hS' => ?_)
            have HS1 := Lib.hid hS'
            clear hK K' hS'
            refine wpAnyH_ready (rs := [10, 11]) (by kernel_rfl) (by simp) ?_
            refine AllReadyH.cons rfl (fun K' hK => ?_) (AllReadyH.cons rfl (fun K' hK => ?_) (AllReadyH.nil))
            · go_simp
              refine hK.out _ _ (hkeep _ _ HS1.out) (fun hS' => ?_)
              have HS2 := Lib.hid hS'
              clear hK K' hS'
              refine wpAnyH_ready (rs := [11]) (by kernel_rfl) (by simp) ?_
              refine AllReadyH.cons rfl (fun K' hK => ?_) (AllReadyH.nil)
              · go_simp
                refine hK.out _ _ (hkeep _ _ HS2.out) (fun hS' => ?_)
                have HS3 := Lib.hid hS'
                clear hK K' hS'
                have hS3 := HS3.out
                rw [HW3.out] at hS3 ⊢
                refine wpAnyH_ready (rs := [12]) (by kernel_rfl) (by simp) ?_
                refine AllReadyH.cons rfl (fun K' hK => ?_) AllReadyH.nil
                refine step_storeC rfl _ _ 40 rfl _ 40 (entE zEnt) (entE (byF B i)).toArray ent_info (by rfl) (by rfl) ?hb (by rfl) (ent_one _) ?_
                case hb => exact HZ1.out
                refine hK.out _ _ (hkeep2 _ _ _ (by omega) (by first | assumption | exact hS3)) (fun hS'' => ?_)
                clear hK K'
                refine wpAnyH_ready (rs := [13]) (by kernel_rfl) (by simp) ?_
                refine AllReadyH.cons rfl (fun K' hK => ?_) AllReadyH.nil
                refine step_storeC rfl _ _ 40 rfl _ 40 (entE zEnt) (entE (byF L i)).toArray ent_info (by rfl) (by rfl) ?hb (by rfl) (ent_one _) ?_
                case hb => exact HZ2.out.row_other (by omega) _
                refine hK.out _ _ (hkeep2 _ _ _ (by omega) (by first | assumption | exact hS3)) (fun hS'' => ?_)
                clear hK K'
                refine wpAnyH_ready (rs := [14]) (by kernel_rfl) (by simp) ?_
                refine AllReadyH.cons rfl (fun K' hK => ?_) AllReadyH.nil
                refine step_storeC rfl _ _ 40 rfl _ 40 (entE zEnt) (entE (byF R i)).toArray ent_info (by rfl) (by rfl) ?hb (by rfl) (ent_one _) ?_
                case hb => exact (HZ3.out.row_other (by omega) _).row_other (by omega) _
                refine hK.out _ _ (hkeep2 _ _ _ (by omega) (by first | assumption | exact hS3)) (fun hS'' => ?_)
                clear hK K'
                refine wpAnyH_done (by kernel_rfl) ?_ _
                have hsz := HW0.out.size
                refine ⟨rfl, W0.heap.size, W0.heap.size + 1, W0.heap.size + 1 + 1, ?fra, ⟨row_below (row_below (row_below HZB.out ?z1a _) ?z2a _) ?z3a _, ?q1a, ?q2a, ?q3a, ?z4a, ?z5a, ?z6a⟩⟩
                case fra => unfold mrgF; go_simp
                case q1a => exact ((blk_row HZ1.out _).row_other (by omega) _).row_other (by omega) _
                case q2a => exact (blk_row (HZ2.out.row_other (by omega) _) _).row_other (by omega) _
                case q3a => exact blk_row ((HZ3.out.row_other (by omega) _).row_other (by omega) _) _
                all_goals omega
            · go_simp
              refine hK.out _ _ (hkeep _ _ HS1.out) (fun hS' => ?_)
              have HS2 := Lib.hid hS'
              clear hK K' hS'
              refine wpAnyH_ready (rs := [10]) (by kernel_rfl) (by simp) ?_
              refine AllReadyH.cons rfl (fun K' hK => ?_) (AllReadyH.nil)
              · go_simp
                refine hK.out _ _ (hkeep _ _ HS2.out) (fun hS' => ?_)
                have HS3 := Lib.hid hS'
                clear hK K' hS'
                have hS3 := HS3.out
                rw [HW3.out] at hS3 ⊢
                refine wpAnyH_ready (rs := [12]) (by kernel_rfl) (by simp) ?_
                refine AllReadyH.cons rfl (fun K' hK => ?_) AllReadyH.nil
                refine step_storeC rfl _ _ 40 rfl _ 40 (entE zEnt) (entE (byF B i)).toArray ent_info (by rfl) (by rfl) ?hb (by rfl) (ent_one _) ?_
                case hb => exact HZ1.out
                refine hK.out _ _ (hkeep2 _ _ _ (by omega) (by first | assumption | exact hS3)) (fun hS'' => ?_)
                clear hK K'
                refine wpAnyH_ready (rs := [13]) (by kernel_rfl) (by simp) ?_
                refine AllReadyH.cons rfl (fun K' hK => ?_) AllReadyH.nil
                refine step_storeC rfl _ _ 40 rfl _ 40 (entE zEnt) (entE (byF L i)).toArray ent_info (by rfl) (by rfl) ?hb (by rfl) (ent_one _) ?_
                case hb => exact HZ3.out.row_other (by omega) _
                refine hK.out _ _ (hkeep2 _ _ _ (by omega) (by first | assumption | exact hS3)) (fun hS'' => ?_)
                clear hK K'
                refine wpAnyH_ready (rs := [14]) (by kernel_rfl) (by simp) ?_
                refine AllReadyH.cons rfl (fun K' hK => ?_) AllReadyH.nil
                refine step_storeC rfl _ _ 40 rfl _ 40 (entE zEnt) (entE (byF R i)).toArray ent_info (by rfl) (by rfl) ?hb (by rfl) (ent_one _) ?_
                case hb => exact (HZ2.out.row_other (by omega) _).row_other (by omega) _
                refine hK.out _ _ (hkeep2 _ _ _ (by omega) (by first | assumption | exact hS3)) (fun hS'' => ?_)
                clear hK K'
                refine wpAnyH_done (by kernel_rfl) ?_ _
                have hsz := HW0.out.size
                refine ⟨rfl, W0.heap.size, W0.heap.size + 1 + 1, W0.heap.size + 1, ?frb, ⟨row_below (row_below (row_below HZB.out ?z1b _) ?z2b _) ?z3b _, ?q1b, ?q2b, ?q3b, ?z4b, ?z5b, ?z6b⟩⟩
                case frb => unfold mrgF; go_simp
                case q1b => exact ((blk_row HZ1.out _).row_other (by omega) _).row_other (by omega) _
                case q2b => exact (blk_row (HZ3.out.row_other (by omega) _) _).row_other (by omega) _
                case q3b => exact blk_row ((HZ2.out.row_other (by omega) _).row_other (by omega) _) _
                all_goals omega
          · go_simp
            refine hK.out _ _ (hkeep _ _ HS0.out) (fun hS' => ?_)
            have HS1 := Lib.hid hS'
            clear hK K' hS'
            refine wpAnyH_ready (rs := [9, 11]) (by kernel_rfl) (by simp) ?_
            refine AllReadyH.cons rfl (fun K' hK => ?_) (AllReadyH.cons rfl (fun K' hK => ?_) (AllReadyH.nil))
            · go_simp
              refine hK.out _ _ (hkeep _ _ HS1.out) (fun hS' => ?_)
              have HS2 := Lib.hid hS'
              clear hK K' hS'
              refine wpAnyH_ready (rs := [11]) (by kernel_rfl) (by simp) ?_
              refine AllReadyH.cons rfl (fun K' hK => ?_) (AllReadyH.nil)
              · go_simp
                refine hK.out _ _ (hkeep _ _ HS2.out) (fun hS' => ?_)
                have HS3 := Lib.hid hS'
                clear hK K' hS'
                have hS3 := HS3.out
                rw [HW3.out] at hS3 ⊢
                refine wpAnyH_ready (rs := [12]) (by kernel_rfl) (by simp) ?_
                refine AllReadyH.cons rfl (fun K' hK => ?_) AllReadyH.nil
                refine step_storeC rfl _ _ 40 rfl _ 40 (entE zEnt) (entE (byF B i)).toArray ent_info (by rfl) (by rfl) ?hb (by rfl) (ent_one _) ?_
                case hb => exact HZ2.out
                refine hK.out _ _ (hkeep2 _ _ _ (by omega) (by first | assumption | exact hS3)) (fun hS'' => ?_)
                clear hK K'
                refine wpAnyH_ready (rs := [13]) (by kernel_rfl) (by simp) ?_
                refine AllReadyH.cons rfl (fun K' hK => ?_) AllReadyH.nil
                refine step_storeC rfl _ _ 40 rfl _ 40 (entE zEnt) (entE (byF L i)).toArray ent_info (by rfl) (by rfl) ?hb (by rfl) (ent_one _) ?_
                case hb => exact HZ1.out.row_other (by omega) _
                refine hK.out _ _ (hkeep2 _ _ _ (by omega) (by first | assumption | exact hS3)) (fun hS'' => ?_)
                clear hK K'
                refine wpAnyH_ready (rs := [14]) (by kernel_rfl) (by simp) ?_
                refine AllReadyH.cons rfl (fun K' hK => ?_) AllReadyH.nil
                refine step_storeC rfl _ _ 40 rfl _ 40 (entE zEnt) (entE (byF R i)).toArray ent_info (by rfl) (by rfl) ?hb (by rfl) (ent_one _) ?_
                case hb => exact (HZ3.out.row_other (by omega) _).row_other (by omega) _
                refine hK.out _ _ (hkeep2 _ _ _ (by omega) (by first | assumption | exact hS3)) (fun hS'' => ?_)
                clear hK K'
                refine wpAnyH_done (by kernel_rfl) ?_ _
                have hsz := HW0.out.size
                refine ⟨rfl, W0.heap.size + 1, W0.heap.size, W0.heap.size + 1 + 1, ?frc, ⟨row_below (row_below (row_below HZB.out ?z1c _) ?z2c _) ?z3c _, ?q1c, ?q2c, ?q3c, ?z4c, ?z5c, ?z6c⟩⟩
                case frc => unfold mrgF; go_simp
                case q1c => exact ((blk_row HZ2.out _).row_other (by omega) _).row_other (by omega) _
                case q2c => exact (blk_row (HZ1.out.row_other (by omega) _) _).row_other (by omega) _
                case q3c => exact blk_row ((HZ3.out.row_other (by omega) _).row_other (by omega) _) _
                all_goals omega
            · go_simp
              refine hK.out _ _ (hkeep _ _ HS1.out) (fun hS' => ?_)
              have HS2 := Lib.hid hS'
              clear hK K' hS'
              refine wpAnyH_ready (rs := [9]) (by kernel_rfl) (by simp) ?_
              refine AllReadyH.cons rfl (fun K' hK => ?_) (AllReadyH.nil)
              · go_simp
                refine hK.out _ _ (hkeep _ _ HS2.out) (fun hS' => ?_)
                have HS3 := Lib.hid hS'
                clear hK K' hS'
                have hS3 := HS3.out
                rw [HW3.out] at hS3 ⊢
                refine wpAnyH_ready (rs := [12]) (by kernel_rfl) (by simp) ?_
                refine AllReadyH.cons rfl (fun K' hK => ?_) AllReadyH.nil
                refine step_storeC rfl _ _ 40 rfl _ 40 (entE zEnt) (entE (byF B i)).toArray ent_info (by rfl) (by rfl) ?hb (by rfl) (ent_one _) ?_
                case hb => exact HZ3.out
                refine hK.out _ _ (hkeep2 _ _ _ (by omega) (by first | assumption | exact hS3)) (fun hS'' => ?_)
                clear hK K'
                refine wpAnyH_ready (rs := [13]) (by kernel_rfl) (by simp) ?_
                refine AllReadyH.cons rfl (fun K' hK => ?_) AllReadyH.nil
                refine step_storeC rfl _ _ 40 rfl _ 40 (entE zEnt) (entE (byF L i)).toArray ent_info (by rfl) (by rfl) ?hb (by rfl) (ent_one _) ?_
                case hb => exact HZ1.out.row_other (by omega) _
                refine hK.out _ _ (hkeep2 _ _ _ (by omega) (by first | assumption | exact hS3)) (fun hS'' => ?_)
                clear hK K'
                refine wpAnyH_ready (rs := [14]) (by kernel_rfl) (by simp) ?_
                refine AllReadyH.cons rfl (fun K' hK => ?_) AllReadyH.nil
                refine step_storeC rfl _ _ 40 rfl _ 40 (entE zEnt) (entE (byF R i)).toArray ent_info (by rfl) (by rfl) ?hb (by rfl) (ent_one _) ?_
                case hb => exact (HZ2.out.row_other (by omega) _).row_other (by omega) _
                refine hK.out _ _ (hkeep2 _ _ _ (by omega) (by first | assumption | exact hS3)) (fun hS'' => ?_)
                clear hK K'
                refine wpAnyH_done (by kernel_rfl) ?_ _
                have hsz := HW0.out.size
                refine ⟨rfl, W0.heap.size + 1 + 1, W0.heap.size, W0.heap.size + 1, ?frd, ⟨row_below (row_below (row_below HZB.out ?z1d _) ?z2d _) ?z3d _, ?q1d, ?q2d, ?q3d, ?z4d, ?z5d, ?z6d⟩⟩
                case frd => unfold mrgF; go_simp
                case q1d => exact ((blk_row HZ3.out _).row_other (by omega) _).row_other (by omega) _
                case q2d => exact (blk_row (HZ1.out.row_other (by omega) _) _).row_other (by omega) _
                case q3d => exact blk_row ((HZ2.out.row_other (by omega) _).row_other (by omega) _) _
                all_goals omega
          · go_simp
            refine hK.out _ _ (hkeep _ _ HS0.out) (fun hS' => ?_)
            have HS1 := Lib.hid hS'
            clear hK K' hS'
            refine wpAnyH_ready (rs := [9, 10]) (by kernel_rfl) (by simp) ?_
            refine AllReadyH.cons rfl (fun K' hK => ?_) (AllReadyH.cons rfl (fun K' hK => ?_) (AllReadyH.nil))
            · go_simp
              refine hK.out _ _ (hkeep _ _ HS1.out) (fun hS' => ?_)
              have HS2 := Lib.hid hS'
              clear hK K' hS'
              refine wpAnyH_ready (rs := [10]) (by kernel_rfl) (by simp) ?_
              refine AllReadyH.cons rfl (fun K' hK => ?_) (AllReadyH.nil)
              · go_simp
                refine hK.out _ _ (hkeep _ _ HS2.out) (fun hS' => ?_)
                have HS3 := Lib.hid hS'
                clear hK K' hS'
                have hS3 := HS3.out
                rw [HW3.out] at hS3 ⊢
                refine wpAnyH_ready (rs := [12]) (by kernel_rfl) (by simp) ?_
                refine AllReadyH.cons rfl (fun K' hK => ?_) AllReadyH.nil
                refine step_storeC rfl _ _ 40 rfl _ 40 (entE zEnt) (entE (byF B i)).toArray ent_info (by rfl) (by rfl) ?hb (by rfl) (ent_one _) ?_
                case hb => exact HZ2.out
                refine hK.out _ _ (hkeep2 _ _ _ (by omega) (by first | assumption | exact hS3)) (fun hS'' => ?_)
                clear hK K'
                refine wpAnyH_ready (rs := [13]) (by kernel_rfl) (by simp) ?_
                refine AllReadyH.cons rfl (fun K' hK => ?_) AllReadyH.nil
                refine step_storeC rfl _ _ 40 rfl _ 40 (entE zEnt) (entE (byF L i)).toArray ent_info (by rfl) (by rfl) ?hb (by rfl) (ent_one _) ?_
                case hb => exact HZ3.out.row_other (by omega) _
                refine hK.out _ _ (hkeep2 _ _ _ (by omega) (by first | assumption | exact hS3)) (fun hS'' => ?_)
                clear hK K'
                refine wpAnyH_ready (rs := [14]) (by kernel_rfl) (by simp) ?_
                refine AllReadyH.cons rfl (fun K' hK => ?_) AllReadyH.nil
                refine step_storeC rfl _ _ 40 rfl _ 40 (entE zEnt) (entE (byF R i)).toArray ent_info (by rfl) (by rfl) ?hb (by rfl) (ent_one _) ?_
                case hb => exact (HZ1.out.row_other (by omega) _).row_other (by omega) _
                refine hK.out _ _ (hkeep2 _ _ _ (by omega) (by first | assumption | exact hS3)) (fun hS'' => ?_)
                clear hK K'
                refine wpAnyH_done (by kernel_rfl) ?_ _
                have hsz := HW0.out.size
                refine ⟨rfl, W0.heap.size + 1, W0.heap.size + 1 + 1, W0.heap.size, ?fre, ⟨row_below (row_below (row_below HZB.out ?z1e _) ?z2e _) ?z3e _, ?q1e, ?q2e, ?q3e, ?z4e, ?z5e, ?z6e⟩⟩
                case fre => unfold mrgF; go_simp
                case q1e => exact ((blk_row HZ2.out _).row_other (by omega) _).row_other (by omega) _
                case q2e => exact (blk_row (HZ3.out.row_other (by omega) _) _).row_other (by omega) _
                case q3e => exact blk_row ((HZ1.out.row_other (by omega) _).row_other (by omega) _) _
                all_goals omega
            · go_simp
              refine hK.out _ _ (hkeep _ _ HS1.out) (fun hS' => ?_)
              have HS2 := Lib.hid hS'
              clear hK K' hS'
              refine wpAnyH_ready (rs := [9]) (by kernel_rfl) (by simp) ?_
              refine AllReadyH.cons rfl (fun K' hK => ?_) (AllReadyH.nil)
              · go_simp
                refine hK.out _ _ (hkeep _ _ HS2.out) (fun hS' => ?_)
                have HS3 := Lib.hid hS'
                clear hK K' hS'
                have hS3 := HS3.out
                rw [HW3.out] at hS3 ⊢
                refine wpAnyH_ready (rs := [12]) (by kernel_rfl) (by simp) ?_
                refine AllReadyH.cons rfl (fun K' hK => ?_) AllReadyH.nil
                refine step_storeC rfl _ _ 40 rfl _ 40 (entE zEnt) (entE (byF B i)).toArray ent_info (by rfl) (by rfl) ?hb (by rfl) (ent_one _) ?_
                case hb => exact HZ3.out
                refine hK.out _ _ (hkeep2 _ _ _ (by omega) (by first | assumption | exact hS3)) (fun hS'' => ?_)
                clear hK K'
                refine wpAnyH_ready (rs := [13]) (by kernel_rfl) (by simp) ?_
                refine AllReadyH.cons rfl (fun K' hK => ?_) AllReadyH.nil
                refine step_storeC rfl _ _ 40 rfl _ 40 (entE zEnt) (entE (byF L i)).toArray ent_info (by rfl) (by rfl) ?hb (by rfl) (ent_one _) ?_
                case hb => exact HZ2.out.row_other (by omega) _
                refine hK.out _ _ (hkeep2 _ _ _ (by omega) (by first | assumption | exact hS3)) (fun hS'' => ?_)
                clear hK K'
                refine wpAnyH_ready (rs := [14]) (by kernel_rfl) (by simp) ?_
                refine AllReadyH.cons rfl (fun K' hK => ?_) AllReadyH.nil
                refine step_storeC rfl _ _ 40 rfl _ 40 (entE zEnt) (entE (byF R i)).toArray ent_info (by rfl) (by rfl) ?hb (by rfl) (ent_one _) ?_
                case hb => exact (HZ1.out.row_other (by omega) _).row_other (by omega) _
                refine hK.out _ _ (hkeep2 _ _ _ (by omega) (by first | assumption | exact hS3)) (fun hS'' => ?_)
                clear hK K'
                refine wpAnyH_done (by kernel_rfl) ?_ _
                have hsz := HW0.out.size
                refine ⟨rfl, W0.heap.size + 1 + 1, W0.heap.size + 1, W0.heap.size, ?frf, ⟨row_below (row_below (row_below HZB.out ?z1f _) ?z2f _) ?z3f _, ?q1f, ?q2f, ?q3f, ?z4f, ?z5f, ?z6f⟩⟩
                case frf => unfold mrgF; go_simp
                case q1f => exact ((blk_row HZ3.out _).row_other (by omega) _).row_other (by omega) _
                case q2f => exact (blk_row (HZ2.out.row_other (by omega) _) _).row_other (by omega) _
                case q3f => exact blk_row ((HZ1.out.row_other (by omega) _).row_other (by omega) _) _
                all_goals omega
        · have HTK := Lib.hid (show ids.take k = ids from by rw [show k = ids.length by omega]; exact List.take_length)
          rw [HTK.out] at HD1 HD2 ⊢
          have HE1 := Lib.hid (show OwnL entE 21 40 w.heap.size wr (.slice D1 (mOut B L R ids).length d1) (mOut B L R (idsU B L R)) by rw [HIU.out]; exact own_mono HD1.out HB7.out.size)
          have HE2 := Lib.hid (show OwnL inE 1 51 w.heap.size wr (.slice D2 (mCl B L R ids).length d2) (mCl B L R (idsU B L R)) by rw [HIU.out]; exact own_mono HD2.out HB7.out.size)
          have HEB := Lib.hid (show Below w.heap.size w wr from cur_step1 HB7.out HB9.out)
          have HE0 := Lib.hid (flE_zero HOK4.out)
          have HML := Lib.hid (Nat.le_trans (show (mOut B L R ids).length ≤ ids.length from List.length_filterMap_le _ _) HCL.out)
          clear HD1 HD2 HDD HTK
          generalize (mOut B L R ids).length = n1 at HE1 HML ⊢
          generalize (mCl B L R ids).length = n2 at HE2 ⊢
          have hn1 := HML.out
          go_wp2_with (fail)
          go_ret3
          exact HGOOD.out HE0.out _ _ _ HE1.out HE2.out HEB.out
end

section
/-! Chapter 58: the chapter's example. -/
open Go.RowKit
set_option maxRecDepth 100000
set_option maxHeartbeats 20000000
theorem rd_blk {α : Type} {enc : α → List Value} {size : Nat} (hl : ∀ x, (enc x).length = size) {w : World} {b e : Nat} {l : List α} (h : Blk w b e (l.flatMap enc)) : Rd enc size w w.heap.size (some ⟨b, 0, none⟩) l := by
  intro k x hx
  exact ⟨b, 0, rfl, h.lt, fun j v hv => by rw [show 0 + k * size + j = k * size + j by omega, h.cell]; exact flat_at hl l k x hx j v hv⟩
theorem awake_p (w : World) : Calls Tryz.prog 5 #[] w fun e' w' => e' = .returned (.bool true) ∧ Below w.heap.size w w' := by
  go_enter Tryz.func5, Tryz.ntmps5
  go_wp2_with (fail)
  refine (stop_p w).mono ?_
  rintro e w1 ⟨rfl, hb1⟩
  have HB1 := Lib.hid (cur_step1 (Below.refl _ _) hb1)
  clear hb1
  go_wp2_with (fail)
  refine (one_p 1000 stopE w1).mono ?_
  rintro e w2 ⟨rfl, hb2⟩
  have HB2 := Lib.hid (cur_step1 HB1.out hb2)
  clear hb2
  go_wp2_with (fail)
  refine (stop_p w2).mono ?_
  rintro e w3 ⟨rfl, hb3⟩
  have HB3 := Lib.hid (cur_step1 HB2.out hb3)
  clear hb3
  go_wp2_with (fail)
  refine (one_p 2000 stopE w3).mono ?_
  rintro e w4 ⟨rfl, hb4⟩
  have HB4 := Lib.hid (cur_step1 HB3.out hb4)
  clear hb4
  obtain ⟨w5, hw5⟩ : ∃ y, w4.alloc (.cells (([⟨1000, stopE, annS⟩, ⟨2000, stopE, annS⟩] : List Ent).flatMap entE).toArray 40) = y := ⟨_, rfl⟩
  have hb5 : Below w4.heap.size w4 w5 := by rw [← hw5]; exact cur_new _ _
  have RB5 := Lib.hid (show Rd entE 21 w5 w5.heap.size (some ⟨w4.heap.size, 0, none⟩) ([⟨1000, stopE, annS⟩, ⟨2000, stopE, annS⟩] : List Ent) from rd_blk entE_len (show Blk w5 w4.heap.size 40 (([⟨1000, stopE, annS⟩, ⟨2000, stopE, annS⟩] : List Ent).flatMap entE) by rw [← hw5]; exact Blk.new _ _ _))
  have HB5 := Lib.hid (cur_step1 HB4.out hb5)
  have SW5 := Lib.hid hw5
  clear hw5 hb5
  go_wp2_with (refine wpList_buildE Tryz.enElem rfl 2 _ rfl ([⟨1000, stopE, annS⟩, ⟨2000, stopE, annS⟩] : List Ent) rfl (by decide) (by decide) (by rfl) ?_; rw [SW5.out])
  refine (stop_p w5).mono ?_
  rintro e w6 ⟨rfl, hb6⟩
  have HB6 := Lib.hid (cur_step1 HB5.out hb6)
  have RB6 := Lib.hid (RB5.out.to hb6)
  clear hb6
  go_wp2_with (fail)
  refine (one_p 1000 stopE w6).mono ?_
  rintro e w7 ⟨rfl, hb7⟩
  have HB7 := Lib.hid (cur_step1 HB6.out hb7)
  have RB7 := Lib.hid (RB6.out.to hb7)
  clear hb7
  go_wp2_with (fail)
  refine (stop_p w7).mono ?_
  rintro e w8 ⟨rfl, hb8⟩
  have HB8 := Lib.hid (cur_step1 HB7.out hb8)
  have RB8 := Lib.hid (RB7.out.to hb8)
  clear hb8
  go_wp2_with (fail)
  refine (one_p 1500 stopE w8).mono ?_
  rintro e w9 ⟨rfl, hb9⟩
  have HB9 := Lib.hid (cur_step1 HB8.out hb9)
  have RB9 := Lib.hid (RB8.out.to hb9)
  clear hb9
  obtain ⟨w10, hw10⟩ : ∃ y, w9.alloc (.cells (([⟨1000, stopE, annS⟩, ⟨1500, stopE, annS⟩] : List Ent).flatMap entE).toArray 40) = y := ⟨_, rfl⟩
  have hb10 : Below w9.heap.size w9 w10 := by rw [← hw10]; exact cur_new _ _
  have RL10 := Lib.hid (show Rd entE 21 w10 w10.heap.size (some ⟨w9.heap.size, 0, none⟩) ([⟨1000, stopE, annS⟩, ⟨1500, stopE, annS⟩] : List Ent) from rd_blk entE_len (show Blk w10 w9.heap.size 40 (([⟨1000, stopE, annS⟩, ⟨1500, stopE, annS⟩] : List Ent).flatMap entE) by rw [← hw10]; exact Blk.new _ _ _))
  have HB10 := Lib.hid (cur_step1 HB9.out hb10)
  have SW10 := Lib.hid hw10
  have RB10 := Lib.hid (RB9.out.to hb10)
  clear hw10 hb10
  go_wp2_with (refine wpList_buildE Tryz.enElem rfl 2 _ rfl ([⟨1000, stopE, annS⟩, ⟨1500, stopE, annS⟩] : List Ent) rfl (by decide) (by decide) (by rfl) ?_; rw [SW10.out])
  refine (note_p w10).mono ?_
  rintro e w11 ⟨rfl, hb11⟩
  have HB11 := Lib.hid (cur_step1 HB10.out hb11)
  have RB11 := Lib.hid (RB10.out.to hb11)
  have RL11 := Lib.hid (RL10.out.to hb11)
  clear hb11
  go_wp2_with (fail)
  refine (one_p 1000 noteE w11).mono ?_
  rintro e w12 ⟨rfl, hb12⟩
  have HB12 := Lib.hid (cur_step1 HB11.out hb12)
  have RB12 := Lib.hid (RB11.out.to hb12)
  have RL12 := Lib.hid (RL11.out.to hb12)
  clear hb12
  go_wp2_with (fail)
  refine (note_p w12).mono ?_
  rintro e w13 ⟨rfl, hb13⟩
  have HB13 := Lib.hid (cur_step1 HB12.out hb13)
  have RB13 := Lib.hid (RB12.out.to hb13)
  have RL13 := Lib.hid (RL12.out.to hb13)
  clear hb13
  go_wp2_with (fail)
  refine (one_p 1500 noteE w13).mono ?_
  rintro e w14 ⟨rfl, hb14⟩
  have HB14 := Lib.hid (cur_step1 HB13.out hb14)
  have RB14 := Lib.hid (RB13.out.to hb14)
  have RL14 := Lib.hid (RL13.out.to hb14)
  clear hb14
  go_wp2_with (fail)
  refine (stop_p w14).mono ?_
  rintro e w15 ⟨rfl, hb15⟩
  have HB15 := Lib.hid (cur_step1 HB14.out hb15)
  have RB15 := Lib.hid (RB14.out.to hb15)
  have RL15 := Lib.hid (RL14.out.to hb15)
  clear hb15
  go_wp2_with (fail)
  refine (one_p 2000 stopE w15).mono ?_
  rintro e w16 ⟨rfl, hb16⟩
  have HB16 := Lib.hid (cur_step1 HB15.out hb16)
  have RB16 := Lib.hid (RB15.out.to hb16)
  have RL16 := Lib.hid (RL15.out.to hb16)
  clear hb16
  obtain ⟨w17, hw17⟩ : ∃ y, w16.alloc (.cells (([⟨1000, noteE, annS⟩, ⟨1500, noteE, annS⟩, ⟨2000, stopE, annS⟩] : List Ent).flatMap entE).toArray 40) = y := ⟨_, rfl⟩
  have hb17 : Below w16.heap.size w16 w17 := by rw [← hw17]; exact cur_new _ _
  have RR17 := Lib.hid (show Rd entE 21 w17 w17.heap.size (some ⟨w16.heap.size, 0, none⟩) ([⟨1000, noteE, annS⟩, ⟨1500, noteE, annS⟩, ⟨2000, stopE, annS⟩] : List Ent) from rd_blk entE_len (show Blk w17 w16.heap.size 40 (([⟨1000, noteE, annS⟩, ⟨1500, noteE, annS⟩, ⟨2000, stopE, annS⟩] : List Ent).flatMap entE) by rw [← hw17]; exact Blk.new _ _ _))
  have HB17 := Lib.hid (cur_step1 HB16.out hb17)
  have SW17 := Lib.hid hw17
  have RB17 := Lib.hid (RB16.out.to hb17)
  have RL17 := Lib.hid (RL16.out.to hb17)
  clear hw17 hb17
  go_wp2_with (refine wpList_buildE Tryz.enElem rfl 3 _ rfl ([⟨1000, noteE, annS⟩, ⟨1500, noteE, annS⟩, ⟨2000, stopE, annS⟩] : List Ent) rfl (by decide) (by decide) (by rfl) ?_; rw [SW17.out])
  have HZ := Lib.hid (show flE [⟨some ⟨w4.heap.size, 0, none⟩, 2, ([⟨1000, stopE, annS⟩, ⟨2000, stopE, annS⟩] : List Ent)⟩, ⟨some ⟨w9.heap.size, 0, none⟩, 2, ([⟨1000, stopE, annS⟩, ⟨1500, stopE, annS⟩] : List Ent)⟩, ⟨some ⟨w16.heap.size, 0, none⟩, 3, ([⟨1000, noteE, annS⟩, ⟨1500, noteE, annS⟩, ⟨2000, stopE, annS⟩] : List Ent)⟩] = 0 from flE_zero (fun g hg => by
    simp only [List.mem_cons, List.not_mem_nil, or_false] at hg
    rcases hg with rfl | rfl | rfl
    · exact exB_is
    · exact exL_is
    · exact exR_is))
  refine merge_e [⟨some ⟨w4.heap.size, 0, none⟩, 2, ([⟨1000, stopE, annS⟩, ⟨2000, stopE, annS⟩] : List Ent)⟩, ⟨some ⟨w9.heap.size, 0, none⟩, 2, ([⟨1000, stopE, annS⟩, ⟨1500, stopE, annS⟩] : List Ent)⟩, ⟨some ⟨w16.heap.size, 0, none⟩, 3, ([⟨1000, noteE, annS⟩, ⟨1500, noteE, annS⟩, ⟨2000, stopE, annS⟩] : List Ent)⟩] _ _ _ 2 2 3 ([⟨1000, stopE, annS⟩, ⟨2000, stopE, annS⟩] : List Ent) ([⟨1000, stopE, annS⟩, ⟨1500, stopE, annS⟩] : List Ent) ([⟨1000, noteE, annS⟩, ⟨1500, noteE, annS⟩, ⟨2000, stopE, annS⟩] : List Ent) rfl w17 (show (7 : Nat) ≤ 400 by decide) ?sc ?rd _ (fun h => absurd HZ.out h) ?good
  case sc =>
    intro f hf x hx
    simp only [List.mem_cons, List.not_mem_nil, or_false] at hf
    rcases hf with rfl | rfl | rfl <;> simp only [List.mem_cons, List.not_mem_nil, or_false] at hx
    · rcases hx with rfl | rfl <;> decide
    · rcases hx with rfl | rfl <;> decide
    · rcases hx with rfl | rfl | rfl <;> decide
  case rd =>
    intro f hf
    simp only [List.mem_cons, List.not_mem_nil, or_false] at hf
    rcases hf with rfl | rfl | rfl
    · exact RB17.out
    · exact RL17.out
    · exact RR17.out
  case good =>
    intro _ v1 v2 wm ho1 ho2 hbm
    rw [exO_is] at ho1
    rw [exC_is] at ho2
    obtain ⟨Ao, co, rfl, hro, _⟩ := OwnL.rd entE_len ho1
    obtain ⟨Ac, cc, rfl, hrc, _⟩ := OwnL.rd inE_len ho2
    have HRO0 := Lib.hid hro
    have HRC0 := Lib.hid hrc
    have HBm := Lib.hid (cur_step1 HB17.out hbm)
    clear ho1 ho2 hro hrc hbm
    go_wp2_with (fail)
    refine (stop_p wm).mono ?_
    rintro e w18 ⟨rfl, hb18⟩
    have HB18 := Lib.hid (cur_step1 HBm.out hb18)
    have HRO18 := Lib.hid (HRO0.out.to hb18)
    have HRC18 := Lib.hid (HRC0.out.to hb18)
    clear hb18
    go_wp2_with (fail)
    refine (chke_p stopE w18).mono ?_
    rintro e w19 ⟨rfl, hb19⟩
    have HB19 := Lib.hid (cur_step1 HB18.out hb19)
    have HRO19 := Lib.hid (HRO18.out.to hb19)
    have HRC19 := Lib.hid (HRC18.out.to hb19)
    clear hb19
    rw [chk_stop]
    go_wp2_with (fail)
    refine (note_p w19).mono ?_
    rintro e w20 ⟨rfl, hb20⟩
    have HB20 := Lib.hid (cur_step1 HB19.out hb20)
    have HRO20 := Lib.hid (HRO19.out.to hb20)
    have HRC20 := Lib.hid (HRC19.out.to hb20)
    clear hb20
    go_wp2_with (fail)
    refine (chke_p noteE w20).mono ?_
    rintro e w21 ⟨rfl, hb21⟩
    have HB21 := Lib.hid (cur_step1 HB20.out hb21)
    have HRO21 := Lib.hid (HRO20.out.to hb21)
    have HRC21 := Lib.hid (HRC20.out.to hb21)
    clear hb21
    rw [chk_note]
    go_wp2_with (fail)
    refine (note_p w21).mono ?_
    rintro e w22 ⟨rfl, hb22⟩
    have HB22 := Lib.hid (cur_step1 HB21.out hb22)
    have HRO22 := Lib.hid (HRO21.out.to hb22)
    have HRC22 := Lib.hid (HRC21.out.to hb22)
    clear hb22
    go_wp2_with (fail)
    refine (one_p 1000 noteE w22).mono ?_
    rintro e w23 ⟨rfl, hb23⟩
    have HB23 := Lib.hid (cur_step1 HB22.out hb23)
    have HRO23 := Lib.hid (HRO22.out.to hb23)
    have HRC23 := Lib.hid (HRC22.out.to hb23)
    clear hb23
    obtain ⟨w24, hw24⟩ : ∃ y, w23.alloc (.cells (([⟨1000, noteE, annS⟩] : List Ent).flatMap entE).toArray 40) = y := ⟨_, rfl⟩
    have hb24 : Below w23.heap.size w23 w24 := by rw [← hw24]; exact cur_new _ _
    have RX24 := Lib.hid (show Rd entE 21 w24 w24.heap.size (some ⟨w23.heap.size, 0, none⟩) ([⟨1000, noteE, annS⟩] : List Ent) from rd_blk entE_len (show Blk w24 w23.heap.size 40 (([⟨1000, noteE, annS⟩] : List Ent).flatMap entE) by rw [← hw24]; exact Blk.new _ _ _))
    have HB24 := Lib.hid (cur_step1 HB23.out hb24)
    have SW24 := Lib.hid hw24
    have HRO24 := Lib.hid (HRO23.out.to hb24)
    have HRC24 := Lib.hid (HRC23.out.to hb24)
    clear hw24 hb24
    go_wp2_with (fail)
    change Calls _ _ _ (w23.alloc (.cells (([⟨1000, noteE, annS⟩] : List Ent).flatMap entE).toArray 40)) _
    rw [SW24.out]
    refine (eq_ent Ao (some ⟨w23.heap.size, 0, none⟩) co 1 [⟨1000, noteE, annS⟩] [⟨1000, noteE, annS⟩] w24 (by decide) (by decide) HRO24.out RX24.out).mono ?_
    rintro e w25 ⟨rfl, hb25⟩
    have HB25 := Lib.hid (cur_step1 HB24.out hb25)
    have HRO25 := Lib.hid (HRO24.out.to hb25)
    have HRC25 := Lib.hid (HRC24.out.to hb25)
    have RX25 := Lib.hid (RX24.out.to hb25)
    clear hb25
    rw [decide_eq_true rfl]
    obtain ⟨w26, hw26⟩ : ∃ y, w25.alloc (.cells (([1500] : List Int).flatMap inE).toArray 51) = y := ⟨_, rfl⟩
    have hb26 : Below w25.heap.size w25 w26 := by rw [← hw26]; exact cur_new _ _
    have RY := Lib.hid (show Rd inE 1 w26 w26.heap.size (some ⟨w25.heap.size, 0, none⟩) [1500] from rd_blk inE_len (show Blk w26 w25.heap.size 51 (([1500] : List Int).flatMap inE) by rw [← hw26]; exact Blk.new _ _ _))
    have HB26 := Lib.hid (cur_step1 HB25.out hb26)
    have SW26 := Lib.hid hw26
    have HRC26 := Lib.hid (HRC25.out.to hb26)
    clear hw26 hb26
    go_wp2_with (fail)
    change Calls _ _ _ (w25.alloc (.cells (([1500] : List Int).flatMap inE).toArray 51)) _
    rw [SW26.out]
    refine (eq_cl Ac (some ⟨w25.heap.size, 0, none⟩) cc 1 [1500] [1500] w26 (by decide) (by decide) HRC26.out RY.out).mono ?_
    rintro e wz ⟨rfl, hbz⟩
    rw [decide_eq_true rfl]
    have HBz := Lib.hid (cur_step1 HB26.out hbz)
    clear hbz
    go_wp2_with (fail)
    go_ret
    exact ⟨rfl, HBz.out⟩
end
end Go.Proofs.YtdbiihfoafoljaaGreatDoor
