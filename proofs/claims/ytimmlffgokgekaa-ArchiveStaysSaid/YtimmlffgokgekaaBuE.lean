/-
  A slice literal of whole structs: the new block's cells stay a term.
-/
import Derived.Test.YtimmlffgokgekaaApp
import Derived.Great.BuildSlice
set_option linter.unusedSimpArgs false
set_option linter.unusedVariables false
namespace Go.Proofs.Ytimmlffgokgekaa
open Go.RowKit
theorem fill_enc {α : Type} {enc : α → List Value} {size : Nat} (hs : 0 < size) (hl : ∀ x, (enc x).length = size) (l : List α) (cells : Array Value) (hc : cells.size = l.length * size) :
    Instr.fill (fun i => some (i * size, size)) cells (((l.map fun x => Value.agg (enc x).toArray).zipIdx 0).map fun x => (x.2, x.1)) = some (l.flatMap enc).toArray := by
  obtain ⟨r, hr, hsz, hk⟩ := Great.fill_dense hs (l.map fun x => Value.agg (enc x).toArray) 0 cells (fun v hv => by obtain ⟨x, _, rfl⟩ := List.mem_map.1 hv; simp [Value.cells, hl]) (by simp [hc])
  rw [hr]
  congr 1
  apply Array.ext_getElem?
  intro k
  rw [hk k]
  have hfl := flat_length hl l
  by_cases hlt : k < l.length * size
  · rw [if_pos ⟨by omega, by simpa using hlt⟩]
    have hd : k / size < l.length := by rw [Nat.div_lt_iff_lt_mul hs]; exact hlt
    obtain ⟨x, hx⟩ : ∃ x, l[k / size]? = some x := ⟨_, List.getElem?_eq_getElem hd⟩
    have hm : k % size < (enc x).length := by rw [hl]; exact Nat.mod_lt _ hs
    have h1 := flat_at hl l (k / size) x hx (k % size) _ (List.getElem?_eq_getElem hm)
    rw [show k / size * size + k % size = k by rw [Nat.mul_comm]; exact Nat.div_add_mod k size] at h1
    simp only [Nat.sub_zero, List.getElem?_map, hx, Option.map_some, Option.bind_some, Value.cells, List.getElem?_toArray, h1]
    exact List.getElem?_eq_getElem hm
  · rw [if_neg (by simp; omega)]
    rw [Array.getElem?_eq_none (by omega), List.getElem?_toArray, List.getElem?_eq_none (by omega)]
section
variable {α : Type} {P : Program} {enc : α → List Value} {size bytes : Nat} {t e : TypeId}
theorem wpList_buildE (E : ElemOf P enc size bytes t e) {ops : Array Oper} {rest : List Oper} {o : Oper} {a : Act} {w : World} {Q : Exit → Act → World → Prop} (hg : o.guard = none) (n : Nat) (parts : Array (Nat × Operand)) (ho : o.op = .buildSlice t n parts)
    (l : List α) (hn : l.length = n) (hpos : 0 < n) (hsm : n * size ≤ 1000000) (hp : (parts.toList.map fun (x : Nat × Operand) => (x.1, a.eval x.2)) = ((l.map fun x => Value.agg (enc x).toArray).zipIdx 0).map fun x => (x.2, x.1))
    (h : wpList P ops Q rest (a.put o.dst (.slice (some ⟨w.heap.size, 0, none⟩) n n)) (w.alloc (.cells (l.flatMap enc).toArray e))) : wpList P ops Q (o :: rest) a w := by
  obtain ⟨z, i, hi, h0, h1, h2, hzs⟩ := E.info
  have hne : ¬ n * i.size = 0 := by rw [h1]; have := Nat.mul_pos hpos E.pos; omega
  refine wpList_buildSlice hg t e n parts ho _ i z E.ty hi h0 (by rw [h1]; omega) hne ?_ h
  rw [Array.toList_map, h1, show (fun x : Nat × Operand => match x with | (i, x) => (i, a.eval x)) = (fun x : Nat × Operand => (x.1, a.eval x.2)) from rfl, hp]
  exact fill_enc E.pos E.len l _ (by simp [hn])
end
end Go.Proofs.Ytimmlffgokgekaa
