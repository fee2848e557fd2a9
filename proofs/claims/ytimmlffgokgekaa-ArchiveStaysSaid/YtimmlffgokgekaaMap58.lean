/-
  Chapter 58: entries by their IDs: a map of the call's own with whole structs.
-/
import Derived.Test.YtimmlffgokgekaaArcL
import Derived.Maps.OwnOps
import Derived.Maps.Views
set_option linter.unusedSimpArgs false
set_option linter.unusedVariables false
namespace Go.Proofs.Ytimmlffgokgekaa
open Go.RowKit
set_option maxRecDepth 100000
set_option maxHeartbeats 4000000
def zEnt : Ent := ⟨0, zeroE, ByteArray.empty⟩
def heldE (v : Value) : Option (DataW (List Value) × List MemPlace) := match v with
  | .agg cs => some (.held cs.toList, [])
  | _ => none
theorem heldE_inv {v : Value} {l : List Value} {ps : List MemPlace} (h : heldE v = some (.held l, ps)) : v = .agg l.toArray := by
  unfold heldE at h
  cases v <;> simp at h
  obtain ⟨rfl, _⟩ := h
  simp
def EntM (w : World) (b n : Nat) (f : Int → Ent) : Prop := ∃ D : DataW (List Value), w.ownsMap Try.prog 2 heldE b n D ∧ Maps.IsMap D ∧ ∀ k : Int, D.atKey (.int .i64 k) (.held (entE zEnt)) = .held (entE (f k))
theorem EntM.made (w : World) : EntM (w.alloc (.map #[] 0)) w.heap.size 0 (fun _ => zEnt) := ⟨.map [], World.ownsMap_made w _ _ _, Maps.isMap_empty, fun _ => rfl⟩
theorem EntM.lt {w : World} {b n : Nat} {f : Int → Ent} (h : EntM w b n f) : b < w.heap.size := by
  obtain ⟨D, h1, _⟩ := h
  exact h1.lt
theorem EntM.to {w w' : World} {b n : Nat} {f : Int → Ent} (h : EntM w b n f) (hb : Below w.heap.size w w') : EntM w' b n f := by
  have hl := h.lt
  obtain ⟨D, ⟨es, clock, h1, h2, h3, h4⟩, h5⟩ := h
  exact ⟨D, ⟨es, clock, (hb.block b hl).trans h1, h2, h3, h4⟩, h5⟩
theorem EntM.other {w w' : World} {b n : Nat} {f : Int → Ent} {r : Option Nat} (h : EntM w b n f) (hg : w.grownBy w' r) (hne : some b ≠ r) : EntM w' b n f := by
  obtain ⟨D, h1, h5⟩ := h
  exact ⟨D, h1.kept hg hne, h5⟩
theorem EntM.lookup {w : World} {b n : Nat} {f : Int → Ent} (h : EntM w b n f) {x : Int} (hx : (Lit.int .i64 x).wf = true) :
    Sem.run Try.prog (Instr.lookup 82 (.map (some b)) (.int .i64 x) false) w = .ok (.agg (entE (f x)).toArray) w := by
  obtain ⟨D, h1, _, h3⟩ := h
  obtain ⟨v, ps, hrun, hv⟩ := h1.lookup (Maps.int_keyed Try.underlying2) Try.underlying82 (z := .agg (entE zEnt).toArray) (by kernel_rfl) (zd := .held (entE zEnt)) (zp := []) (by rfl) (Maps.keyOf_int_mk Try.underlying2 hx)
  rw [h3 x] at hv
  rw [heldE_inv hv] at hrun
  exact hrun
theorem wpList_entPut {w : World} {ops : Array Oper} {rest : List Oper} {o : Oper} {a : Act} {Q : Exit → Act → World → Prop} (hgd : o.guard = none) (m k v : Operand) (hop : o.op = Op.mapUpdate 82 m k v) (b n : Nat) (f : Int → Ent) (x : Ent)
    (hm : a.eval m = .map (some b)) (hk : a.eval k = .int .i64 x.id) (hv : a.eval v = .agg (entE x).toArray) (h : EntM w b n f) (hn : n < maxLen) (hx : (Lit.int .i64 x.id).wf = true)
    (hK : ∀ w', EntM w' b (n + 1) (fun i => if i = x.id then x else f i) → w.grownBy w' (some b) → wpList Try.prog ops Q rest (a.put o.dst undef) w') : wpList Try.prog ops Q (o :: rest) a w := by
  obtain ⟨D, h1, h2, h3⟩ := h
  refine wpList_mapUpdate_own w hgd m k v 82 hop 2 39 (Maps.int_keyed Try.underlying2) Try.underlying82 _ b n D hm h1 hn _ _ (.int .i64 x.id) hk hv (Maps.keyOf_int_mk Try.underlying2 hx) (.held (entE x)) [] (by rfl) ?_
  intro w' hw' hg
  refine hK w' ⟨_, hw', h2.put _ _, fun y => ?_⟩ hg
  by_cases e : y = x.id
  · subst e
    rw [Maps.atKey_put_same h2 (by first | exact trivial | exact .inl ⟨_, _, rfl⟩ | simp [WideAt.IsKeyLit])]
    simp
  · rw [Maps.atKey_put_other (by intro h; injection h with _ h; exact e h), h3 y]
    show _ = DataW.held (entE (if y = x.id then x else f y))
    rw [if_neg e]
/-- What the map of a file says: the last entry with an ID. -/
def byF (l : List Ent) : Int → Ent := l.foldl (fun f x i => if i = x.id then x else f i) (fun _ => zEnt)
theorem byF_snoc (l : List Ent) (x : Ent) : byF (l ++ [x]) = fun i => if i = x.id then x else byF l i := by unfold byF; rw [List.foldl_append]; rfl
def ByR (l : List Ent) (w : World) (g : Nat) (iv : Value) (wr : World) : Prop := ∃ k : Nat, k ≤ l.length ∧ iv = .int .i64 k ∧ EntM wr g k (byF (l.take k)) ∧ Below w.heap.size w wr
theorem byid_p (l : List Ent) (A : Option Addr) (c : Nat) (w : World) (hl : l.length ≤ 1000000) (hwf : ∀ x ∈ l, (Lit.int .i64 x.id).wf = true) (hrd : Rd entE 21 w w.heap.size A l) :
    Calls Try.prog 39 #[.slice A l.length c] w fun e' w' => (∃ b n, e' = .returned (.map (some b)) ∧ w.heap.size ≤ b ∧ EntM w' b n (byF l)) ∧ Below w.heap.size w w' := by
  have HRD := Lib.hid hrd
  have HWF := Lib.hid hwf
  clear hrd hwf
  have hmk : ∀ w, Sem.run Try.prog (Instr.makeMap 82 none) w = .ok (.map (some w.heap.size)) (w.alloc (.map #[] 0)) := fun w => run_makeMap _ w
  go_enter Try.func39, Try.ntmps39
  go_wp2_with (fail)
  have HM0 := Lib.hid (EntM.made w)
  go_loopw [9] (ByR l w w.heap.size) (fun i _ => l.length - (intOf i).toNat)
  case atStart => exact ⟨0, by omega, rfl, HM0.out, cur_new _ _⟩
  case round =>
    obtain ⟨k, hk, rfl, hm, hb⟩ := hrel
    have HM := Lib.hid hm
    have HB := Lib.hid hb
    clear hm hb
    by_cases hkl : k < l.length
    · obtain ⟨x, hx⟩ : ∃ x, l[k]? = some x := ⟨_, List.getElem?_eq_getElem hkl⟩
      obtain ⟨b2, off2, rfl, hb2l, hc2⟩ := HRD.out k x hx
      have HRA := Lib.hid (show wr.rangeAt b2 (off2 + k * 21) (entE x) from fun j v hv => (HB.out.cell (p := ⟨b2, off2 + k * 21 + j, none⟩) hb2l).trans (hc2 j v hv))
      have HNX := Lib.hid (show byF (l.take (k + 1)) = fun i => if i = x.id then x else byF (l.take k) i by rw [List.take_add_one, hx]; exact byF_snoc _ _)
      have HXW := Lib.hid (HWF.out x (List.mem_of_getElem? hx))
      clear hc2 hx
      obtain ⟨W6, hW6⟩ : ∃ y, wr.alloc (.cells (entE x).toArray 39) = y := ⟨_, rfl⟩
      have HB6 := Lib.hid (show Below wr.heap.size wr W6 by rw [← hW6]; exact cur_new _ _)
      have HX6 := Lib.hid (show Blk W6 wr.heap.size 39 (entE x) by rw [← hW6]; exact Blk.new wr _ _)
      have S6 := Lib.hid hW6
      have e0 : W6.cell? ⟨wr.heap.size, 0, none⟩ = some (.int .i64 x.id) := by rw [HX6.out.cell]; rfl
      clear hW6
      have HM6 := Lib.hid (HM.out.to HB6.out)
      go_wp2_with (first | (refine wpList_load_mid rfl 39 _ rfl b2 (off2 + k * 21) (by rfl) (entE x) _ HRA.out (by rfl) (by rfl) ent_info ?_) | (refine wpList_storeNew rfl _ _ 39 rfl _ (entE x).toArray ent_info (by rfl) (by rfl) rfl (ent_one _) ?_; rw [S6.out]) | (refine wpList_loadC rfl _ 39 rfl wr.heap.size 39 (entE x) _ rfl (by rfl) (by rfl) (by rfl) HX6.out ?_) | (at_mapUpdate; refine wpList_entPut rfl _ _ _ rfl w.heap.size k _ x rfl rfl rfl HM6.out (by unfold maxLen; omega) HXW.out ?_; intro w9 hm9 hg9))
      have HM9 := Lib.hid hm9
      have HB9 := Lib.hid ((cur_step1 HB.out HB6.out).grown hg9 (cur_step1 HB.out HB6.out).size (fun b hb => by injection hb with hb; omega))
      clear hm9 hg9
      go_wp2_with (fail)
      exact ⟨⟨k + 1, by omega, rfl, by rw [HNX.out]; exact HM9.out, HB9.out⟩, by show l.length - (k + 1) < l.length - k; omega⟩
    · have HKN := Lib.hid (show k = l.length by omega)
      go_wp2_with (fail)
      go_ret
      refine ⟨⟨w.heap.size, k, rfl, Nat.le_refl _, ?_⟩, HB.out⟩
      have := HM.out
      rw [show l.take k = l from by rw [HKN.out]; exact List.take_length] at this
      exact this
end Go.Proofs.Ytimmlffgokgekaa
