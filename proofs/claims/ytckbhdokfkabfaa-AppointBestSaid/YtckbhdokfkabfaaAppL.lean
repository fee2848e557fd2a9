/-
  append of a whole list onto a row of the call's own (nothing appended too), in a walk and in a region that draws its order.
-/
import Derived.Test.YtckbhdokfkabfaaApp
import Derived.Test.YtckbhdokfkabfaaBlk
import Derived.Lib.AppendZeros
set_option linter.unusedSimpArgs false
set_option linter.unusedVariables false
namespace Go.Proofs.Ytckbhdokfkabfaa
open Go.RowKit
set_option maxRecDepth 100000
set_option maxHeartbeats 1000000
theorem flat_inv {α : Type} {enc : α → List Value} {size : Nat} (hs : ∀ x, (enc x).length = size) : ∀ (l : List α) (j : Nat) (u : Value), (l.flatMap enc)[j]? = some u → ∃ k x r, l[k]? = some x ∧ (enc x)[r]? = some u ∧ j = k * size + r
  | [], j, u, h => by simp at h
  | x :: l, j, u, h => by
    rw [List.flatMap_cons] at h
    by_cases hj : j < (enc x).length
    · rw [List.getElem?_append_left hj] at h
      exact ⟨0, x, j, rfl, h, by simp⟩
    · rw [List.getElem?_append_right (by omega), hs] at h
      obtain ⟨k, y, r, h1, h2, h3⟩ := flat_inv hs l _ _ h
      exact ⟨k + 1, y, r, h1, h2, by rw [Nat.succ_mul]; have := hs x; omega⟩
theorem run_append_none {P : Program} {w : World} {t ty e : TypeId} {i : TypeInfo} (ht : P.underlying t = some (.slice e)) (hi : P.info? e = some i) (g n c c2 : Nat) (hn : n ≤ c) :
    (Builtin.append_ #[t, t] ty #[.slice (some ⟨g, 0, none⟩) n c, .slice none 0 c2]).run P w = .ok (.slice (some ⟨g, 0, none⟩) n c) w := by
  simp [Builtin.append_, run_underlying ht, sizeOf, typeInfo, hi, Builtin.lenOf, Builtin.firstCells, storeCells, hn, Result.andThen]
theorem run_appL {α : Type} {P : Program} {enc : α → List Value} {size bytes : Nat} {t e : TypeId} (E : ElemOf P enc size bytes t e) (w : World) (ty : TypeId) (base : Nat) (g c : Nat) (l : List α) (hown : OwnL enc size e base w (.slice (some ⟨g, 0, none⟩) l.length c) l)
    (A2 : Option Addr) (c2 : Nat) (l2 : List α) (hr : Rd enc size w w.heap.size A2 l2) (h63 : l.length + l2.length ≤ maxLen) (hbytes : (l.length + l2.length) * bytes ≤ 140737488355328) (hbase : base ≤ w.heap.size) :
    ∃ g' cap w', (Builtin.append_ #[t, t] ty #[.slice (some ⟨g, 0, none⟩) l.length c, .slice A2 l2.length c2]).run P w = .ok (.slice (some ⟨g', 0, none⟩) (l ++ l2).length cap) w' ∧ OwnL enc size e base w' (.slice (some ⟨g', 0, none⟩) (l ++ l2).length cap) (l ++ l2) ∧ w.grownBy w' (some g) ∧ (g' = g ∨ w.heap.size ≤ g') := by
  obtain ⟨z, i, hi, h0, h1, h2, hzs⟩ := E.info
  have hc := own_cap hown
  cases l2 with
  | nil =>
    rw [List.append_nil]
    cases A2 with
    | none => exact ⟨g, c, w, run_append_none E.ty hi g l.length c c2 hc, hown, ⟨rfl, rfl, rfl, Nat.le_refl _, fun _ _ _ => rfl⟩, Or.inl rfl⟩
    | some ad =>
      obtain ⟨w', hrun, ho2, hg2⟩ := run_append_fits (P := P) w base t ty e i size E.ty hi h1 g l.length c _ hown ad 0 c2 [] (by simp) (fun j u hu => by simp at hu) (fun u hu => by cases hu) (by omega)
      exact ⟨g, c, w', hrun, by simpa [OwnL] using ho2, hg2, Or.inl rfl⟩
  | cons y l3 =>
    obtain ⟨b, off, rfl, _, _⟩ := hr 0 y rfl
    obtain ⟨g', cap, w', hrun, ha⟩ := run_app (P := P) w t ty base e i z size bytes E.ty hi h0 h1 h2 hzs E.pos _ _ _ hown ⟨b, off, none⟩ (y :: l3).length c2 ((y :: l3).flatMap enc) (by rw [flat_length E.len]) (fun j u hu => by
      obtain ⟨k, x', r, h3, h4, rfl⟩ := flat_inv E.len _ _ _ hu
      obtain ⟨b', off', e', _, hcl⟩ := hr k x' h3
      injection e' with e'
      injection e' with e1 e2 _
      subst e1 e2
      have := hcl r u h4
      simpa [Addr.add_lit, Nat.add_assoc] using this) (fun u hu => by
      obtain ⟨x', _, hu2⟩ := List.mem_flatMap.1 hu
      exact E.one x' u hu2) (by simp) h63 hbytes hbase
    have ho3 := ha.own
    refine ⟨g', cap, w', by rw [List.length_append]; exact hrun, by unfold OwnL; rw [List.length_append, List.flatMap_append]; exact ho3, ha.grown, ?_⟩
    rcases ha.at_ with h | h
    · injection h with h; exact Or.inl h.symm
    · exact Or.inr (by omega)
theorem wp_appL {α : Type} {P : Program} {enc : α → List Value} {size bytes : Nat} {t e : TypeId} (E : ElemOf P enc size bytes t e) (w : World) {o : Oper} {a : Act} {K : Act → World → Prop} {Q : Exit → Act → World → Prop} (s x : Operand)
    (ho : o.op = .call { callee := .builtin .append, args := #[s, x], argTypes := #[t, t] }) (base : Nat) (g c : Nat) (l : List α) (hs : a.eval s = .slice (some ⟨g, 0, none⟩) l.length c) (hown : OwnL enc size e base w (.slice (some ⟨g, 0, none⟩) l.length c) l)
    (A2 : Option Addr) (c2 : Nat) (l2 : List α) (hx : a.eval x = .slice A2 l2.length c2) (hr : Rd enc size w w.heap.size A2 l2) (h63 : l.length + l2.length ≤ maxLen) (hbytes : (l.length + l2.length) * bytes ≤ 140737488355328) (hbase : base ≤ w.heap.size)
    (h : ∀ g' cap w', OwnL enc size e base w' (.slice (some ⟨g', 0, none⟩) (l ++ l2).length cap) (l ++ l2) → w.grownBy w' (some g) → (g' = g ∨ w.heap.size ≤ g') → K (a.put o.dst (.slice (some ⟨g', 0, none⟩) (l ++ l2).length cap)) w') : o.wp P a w K Q := by
  obtain ⟨g', cap, w', hrun, h1, h2, h3⟩ := run_appL E w o.type base g c l hown A2 c2 l2 hr h63 hbytes hbase
  unfold Oper.wp execOp
  simp only [ho, resolve, invoke, builtin, Sem.run_bind, Sem.run_pure, Result.andThen_ok, List.map_toArray, List.map_cons, List.map_nil, hs, hx, hrun]
  exact h g' cap w' h1 h2 h3
theorem wpList_appL {α : Type} {P : Program} {enc : α → List Value} {size bytes : Nat} {t e : TypeId} (E : ElemOf P enc size bytes t e) (w : World) {ops : Array Oper} {rest : List Oper} {o : Oper} {a : Act} {Q : Exit → Act → World → Prop} (hgd : o.guard = none) (s x : Operand)
    (ho : o.op = .call { callee := .builtin .append, args := #[s, x], argTypes := #[t, t] }) (base : Nat) (g c : Nat) (l : List α) (hs : a.eval s = .slice (some ⟨g, 0, none⟩) l.length c) (hown : OwnL enc size e base w (.slice (some ⟨g, 0, none⟩) l.length c) l)
    (A2 : Option Addr) (c2 : Nat) (l2 : List α) (hx : a.eval x = .slice A2 l2.length c2) (hr : Rd enc size w w.heap.size A2 l2) (h63 : l.length + l2.length ≤ maxLen) (hbytes : (l.length + l2.length) * bytes ≤ 140737488355328) (hbase : base ≤ w.heap.size)
    (h : ∀ g' cap w', OwnL enc size e base w' (.slice (some ⟨g', 0, none⟩) (l ++ l2).length cap) (l ++ l2) → w.grownBy w' (some g) → (g' = g ∨ w.heap.size ≤ g') → wpList P ops Q rest (a.put o.dst (.slice (some ⟨g', 0, none⟩) (l ++ l2).length cap)) w') : wpList P ops Q (o :: rest) a w :=
  wpList_plain hgd fun _ hK => wp_appL E w s x ho base g c l hs hown A2 c2 l2 hx hr h63 hbytes hbase fun g' cap w' h1 h2 h3 => hK _ _ (h g' cap w' h1 h2 h3)
theorem step_appL {α : Type} {P : Program} {enc : α → List Value} {size bytes : Nat} {t e : TypeId} (E : ElemOf P enc size bytes t e) (w : World) {ops : Array Oper} {o : Oper} {a : Act} {K : Act → World → Prop} {Q : Exit → Act → World → Prop} {X : Prop} (hgd : o.guard = none) (s x : Operand)
    (ho : o.op = .call { callee := .builtin .append, args := #[s, x], argTypes := #[t, t] }) (base : Nat) (g c : Nat) (l : List α) (hs : a.eval s = .slice (some ⟨g, 0, none⟩) l.length c) (hown : OwnL enc size e base w (.slice (some ⟨g, 0, none⟩) l.length c) l)
    (A2 : Option Addr) (c2 : Nat) (l2 : List α) (hx : a.eval x = .slice A2 l2.length c2) (hr : Rd enc size w w.heap.size A2 l2) (h63 : l.length + l2.length ≤ maxLen) (hbytes : (l.length + l2.length) * bytes ≤ 140737488355328) (hbase : base ≤ w.heap.size)
    (h : ∀ g' cap w', OwnL enc size e base w' (.slice (some ⟨g', 0, none⟩) (l ++ l2).length cap) (l ++ l2) → w.grownBy w' (some g) → (g' = g ∨ w.heap.size ≤ g') → K (a.put o.dst (.slice (some ⟨g', 0, none⟩) (l ++ l2).length cap)) w') : if Region.wanted o (yielded ops a.tmps) = true then Oper.wp P o a w K Q else X := by
  have hw : Region.wanted o (yielded ops a.tmps) = true := by simp [Region.wanted, hgd]
  rw [if_pos hw]
  exact wp_appL E w s x ho base g c l hs hown A2 c2 l2 hx hr h63 hbytes hbase h
theorem own_take {α : Type} {enc : α → List Value} {size : Nat} (hs : ∀ x, (enc x).length = size) {w : World} {base e : Nat} {g c : Nat} {l : List α} (h : OwnL enc size e base w (.slice (some ⟨g, 0, none⟩) l.length c) l) {k : Nat} (hk : k ≤ l.length) :
    OwnL enc size e base w (.slice (some ⟨g, 0, none⟩) (l.take k).length c) (l.take k) := by
  have hkl : (l.take k).length = k := by simp; omega
  unfold OwnL at *
  refine ⟨by rw [flat_length hs], ?_⟩
  rcases h.2 with ⟨hv, _⟩ | ⟨g', cap, cur, hv, hb, hh, hn, hm, hcs, ht⟩
  · cases hv
  · injection hv with h1 h2 h3
    injection h1 with h1
    injection h1 with h1
    subst h1 h3
    refine .inr ⟨g, c, cur, rfl, hb, hh, by omega, hm, hcs, ?_⟩
    rw [hkl]
    have h4 : (l.take k).flatMap enc = (l.flatMap enc).take (k * size) := by
      have h5 : l.flatMap enc = (l.take k).flatMap enc ++ (l.drop k).flatMap enc := by rw [← List.flatMap_append, List.take_append_drop]
      rw [h5, List.take_append_of_le_length (by rw [flat_length hs, hkl]; exact Nat.le_refl _)]
      exact (List.take_of_length_le (by rw [flat_length hs, hkl]; exact Nat.le_refl _)).symm
    rw [h4, ← ht, List.take_take, Nat.min_eq_left (Nat.mul_le_mul_right _ hk)]
theorem rd_one {α : Type} {enc : α → List Value} {size : Nat} {w : World} {b e : Nat} {x : α} (h : Blk w b e (enc x)) : Rd enc size w w.heap.size (some ⟨b, 0, none⟩) [x] := by
  intro k y hy
  cases k with
  | zero =>
    simp at hy
    subst hy
    exact ⟨b, 0, rfl, h.lt, fun j u hu => by rw [show 0 + 0 * size + j = j by omega, h.cell]; exact hu⟩
  | succ k => simp at hy
theorem own_grown {w w' : World} {base e size n : Nat} {v : Value} {xs : List Value} {r : Option Nat} (h : w.ownsRow base e size v n xs) (hg : w.grownBy w' r) (hne : ∀ b, v.ownBlock = some b → some b ≠ r) : w'.ownsRow base e size v n xs := by
  refine ⟨h.1, ?_⟩
  rcases h.2 with h2 | ⟨g, cap, cur, hv, hb, hh, hr⟩
  · exact .inl h2
  · exact .inr ⟨g, cap, cur, hv, hb, by rw [hg.block g (Array.getElem?_eq_some_iff.1 hh).1 (hne g (by rw [hv]; rfl))]; exact hh, hr⟩
theorem blk_grown {w w' : World} {g e : Nat} {xs : List Value} {r : Option Nat} (h : Blk w g e xs) (hg : w.grownBy w' r) (hne : some g ≠ r) : Blk w' g e xs := by
  have hl := h.lt
  unfold Blk at *
  rw [hg.block g hl hne]
  exact h
end Go.Proofs.Ytckbhdokfkabfaa
