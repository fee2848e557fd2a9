/-
  append onto a row of the call's own: all that is known behind it, in one structure.
-/
import Derived.Test.YtdbiihfoafoljaaGreatDoorBase
import Derived.Maps.AppendAt
import Derived.RegionTactic
import Derived.Deep.AppendLies
set_option linter.unusedSimpArgs false
set_option linter.unusedVariables false
namespace Go.Proofs.YtdbiihfoafoljaaGreatDoor
open Go.RowKit

/-- Behind an append of 'news' (m elements) onto v (n elements, cells xs): the new value lies in block g. Old cells stay, those of v's own row up to its length. -/
structure App (w w' : World) (base : Nat) (e : TypeId) (size : Nat) (v : Value) (g cap n m : Nat) (xs news : List Value) : Prop where
  own : w'.ownsRow base e size (.slice (some ⟨g, 0, none⟩) (n + m) cap) (n + m) (xs ++ news)
  grown : w.grownBy w' v.ownBlock
  at_ : v.ownBlock = some g ∨ g = w.heap.size
  keep : ∀ b off, b < w.heap.size → (v.ownBlock = some b → off < n * size) → w'.cell? ⟨b, off, none⟩ = w.cell? ⟨b, off, none⟩
  froz : ∀ b off, b < w.heap.size → w.frozen? ⟨b, off, none⟩ = false → w'.frozen? ⟨b, off, none⟩ = false

section
variable {P : Program} (w : World)
theorem run_app (t ty : TypeId) (base : Nat) (e : TypeId) (i : TypeInfo) (z : Value) (size bytes : Nat) (ht : P.underlying t = some (.slice e)) (hi : P.info? e = some i) (hz : i.zero = some z)
    (hsize : i.size = size) (hby : i.bytes = bytes) (hzs : z.cells.size = size) (hsz : 0 < size)
    (v : Value) (n : Nat) (xs : List Value) (hown : w.ownsRow base e size v n xs)
    (ad : Addr) (m c : Nat) (news : List Value) (hl : news.length = m * size) (hnews : ∀ j u, news[j]? = some u → w.cell? (ad.add j) = some u) (h1 : ∀ u ∈ news, u.oneCell' = true)
    (hm : 0 < m) (h63 : n + m ≤ maxLen) (hbytes : (n + m) * bytes ≤ 140737488355328) (hbase : base ≤ w.heap.size) :
    ∃ g cap w', (Builtin.append_ #[t, t] ty #[v, .slice (some ad) m c]).run P w = .ok (.slice (some ⟨g, 0, none⟩) (n + m) cap) w' ∧ App w w' base e size v g cap n m xs news := by
  have big : ∀ (hmk : ∃ g cap w', (Builtin.append_ #[t, t] ty #[v, .slice (some ad) m c]).run P w = .ok (.slice (some ⟨g, 0, none⟩) (n + m) cap) w' ∧ g = w.heap.size ∧ (∀ b off, b < w.heap.size → w'.cell? ⟨b, off, none⟩ = w.cell? ⟨b, off, none⟩) ∧ (∀ b off, b < w.heap.size → w'.frozen? ⟨b, off, none⟩ = w.frozen? ⟨b, off, none⟩)),
      ∃ g cap w', (Builtin.append_ #[t, t] ty #[v, .slice (some ad) m c]).run P w = .ok (.slice (some ⟨g, 0, none⟩) (n + m) cap) w' ∧ App w w' base e size v g cap n m xs news := by
    rintro ⟨g, cap, w', hr, hg, hk, hf⟩
    obtain ⟨g2, cap2, w2, hr2, h2, h3, h4, _⟩ := run_append_lies (P := P) w t ty base e i z size bytes ht hi hz hsize hby hzs hsz v n xs hown ad m c news hl hnews h1 hm h63 hbytes hbase _ rfl
    rw [hr] at hr2
    injection hr2 with hv hw
    subst hw
    injection hv with ha _ hc
    injection ha with ha
    injection ha with ha _ _
    subst ha hc
    exact ⟨g, cap, w', hr, h2, h3, h4, fun b off hb _ => hk b off hb, fun b off hb h => (hf b off hb).trans h⟩
  have keepA : ∀ (o : Obj), (∀ b off, b < w.heap.size → (w.drew.alloc o).cell? ⟨b, off, none⟩ = w.cell? ⟨b, off, none⟩) ∧ (∀ b off, b < w.heap.size → (w.drew.alloc o).frozen? ⟨b, off, none⟩ = w.frozen? ⟨b, off, none⟩) := fun o =>
    ⟨fun b off hb => (((Below.refl w.heap.size w).drew).alloc (Nat.le_refl _) o).cell (p := ⟨b, off, none⟩) hb, fun b off hb => (((Below.refl w.heap.size w).drew).alloc (Nat.le_refl _) o).frozen (p := ⟨b, off, none⟩) hb⟩
  rcases hown.2 with ⟨rfl, rfl⟩ | ⟨g, cap, cur, rfl, hbg, hg, hnc, hcm, hcs, htake⟩
  · have hr := run_append_nil (P := P) w t ty e i z ht hi hz ad m c news (by rw [hsize]; exact hl) hnews (by omega) (by simp only [maxLen] at h63; omega) (by have hb := hbytes; rw [hby]; simp only [Nat.zero_add] at hb; omega)
    exact big ⟨_, _, _, by rw [Nat.zero_add]; exact hr, rfl, (keepA _).1, (keepA _).2⟩
  · by_cases hroom : n + m ≤ cap
    · obtain ⟨w', hr, h2, h3⟩ := run_append_fits (P := P) w base t ty e i size ht hi hsize g n cap xs hown ad m c news hl hnews h1 hroom
      refine ⟨g, cap, w', hr, h2, h3, .inl rfl, fun b off hb hoff => ?_, fun b off hb hf => ?_⟩
      · by_cases hbg' : b = g
        · subst hbg'
          have ho := hoff rfl
          have hlx := hown.1
          rw [h2.cellAt off (by rw [Nat.add_mul]; omega), hown.cellAt off ho, List.getElem?_append_left (by omega)]
        · exact World.cell?_of_block (a := ⟨b, off, none⟩) (h3.block b hb (fun e => hbg' (by injection e)))
      · by_cases hbg' : b = g
        · subst hbg'
          exact h2.frozenAt off
        · exact (World.frozen?_of_block (a := ⟨b, off, none⟩) (h3.block b hb (fun e => hbg' (by injection e)))).trans hf
    · have holds : ∀ j u, xs[j]? = some u → w.cell? ((⟨g, 0, none⟩ : Addr).add j) = some u := hown.cells (g := g) rfl
      have hr := run_append_grow (P := P) w t ty e i z ht hi hz ⟨g, 0, none⟩ n cap xs (by rw [hsize]; exact hown.1) holds ad m c news (by rw [hsize]; exact hl) hnews (by omega) (by simp only [maxLen] at h63; omega) (growslice_fits (by omega) (by rw [hby]; exact hbytes))
      exact big ⟨_, _, _, hr, rfl, (keepA _).1, (keepA _).2⟩

theorem wp_app {o : Oper} {a : Act} {K : Act → World → Prop} {Q : Exit → Act → World → Prop} (s x : Operand) (t : TypeId)
    (ho : o.op = .call { callee := .builtin .append, args := #[s, x], argTypes := #[t, t] })
    (base : Nat) (e : TypeId) (i : TypeInfo) (z : Value) (size bytes : Nat) (ht : P.underlying t = some (.slice e)) (hi : P.info? e = some i) (hz : i.zero = some z)
    (hsize : i.size = size) (hby : i.bytes = bytes) (hzs : z.cells.size = size) (hsz : 0 < size)
    (v : Value) (n : Nat) (xs : List Value) (hs : a.eval s = v) (hown : w.ownsRow base e size v n xs)
    (ad : Addr) (m c : Nat) (news : List Value) (hx : a.eval x = .slice (some ad) m c) (hl : news.length = m * size) (hnews : ∀ j u, news[j]? = some u → w.cell? (ad.add j) = some u) (h1 : ∀ u ∈ news, u.oneCell' = true)
    (hm : 0 < m) (h63 : n + m ≤ maxLen) (hbytes : (n + m) * bytes ≤ 140737488355328) (hbase : base ≤ w.heap.size)
    (h : ∀ g cap w', App w w' base e size v g cap n m xs news → K (a.put o.dst (.slice (some ⟨g, 0, none⟩) (n + m) cap)) w') : o.wp P a w K Q := by
  obtain ⟨g, cap, w', hr, h2⟩ := run_app (P := P) w t o.type base e i z size bytes ht hi hz hsize hby hzs hsz v n xs hown ad m c news hl hnews h1 hm h63 hbytes hbase
  unfold Oper.wp execOp
  simp only [ho, resolve, invoke, builtin, Sem.run_bind, Sem.run_pure, Result.andThen_ok, List.map_toArray, List.map_cons, List.map_nil, hs, hx, hr]
  exact h g cap w' h2
theorem wpList_app {ops : Array Oper} {rest : List Oper} {o : Oper} {a : Act} {Q : Exit → Act → World → Prop} (hgd : o.guard = none) (s x : Operand) (t : TypeId)
    (ho : o.op = .call { callee := .builtin .append, args := #[s, x], argTypes := #[t, t] })
    (base : Nat) (e : TypeId) (i : TypeInfo) (z : Value) (size bytes : Nat) (ht : P.underlying t = some (.slice e)) (hi : P.info? e = some i) (hz : i.zero = some z)
    (hsize : i.size = size) (hby : i.bytes = bytes) (hzs : z.cells.size = size) (hsz : 0 < size)
    (v : Value) (n : Nat) (xs : List Value) (hs : a.eval s = v) (hown : w.ownsRow base e size v n xs)
    (ad : Addr) (m c : Nat) (news : List Value) (hx : a.eval x = .slice (some ad) m c) (hl : news.length = m * size) (hnews : ∀ j u, news[j]? = some u → w.cell? (ad.add j) = some u) (h1 : ∀ u ∈ news, u.oneCell' = true)
    (hm : 0 < m) (h63 : n + m ≤ maxLen) (hbytes : (n + m) * bytes ≤ 140737488355328) (hbase : base ≤ w.heap.size)
    (h : ∀ g cap w', App w w' base e size v g cap n m xs news → wpList P ops Q rest (a.put o.dst (.slice (some ⟨g, 0, none⟩) (n + m) cap)) w') : wpList P ops Q (o :: rest) a w :=
  wpList_plain hgd fun _ hK => wp_app w s x t ho base e i z size bytes ht hi hz hsize hby hzs hsz v n xs hs hown ad m c news hx hl hnews h1 hm h63 hbytes hbase fun g cap w' h2 => hK _ _ (h g cap w' h2)
theorem step_app {ops : Array Oper} {o : Oper} {a : Act} {K : Act → World → Prop} {Q : Exit → Act → World → Prop} {E : Prop} (hgd : o.guard = none) (s x : Operand) (t : TypeId)
    (ho : o.op = .call { callee := .builtin .append, args := #[s, x], argTypes := #[t, t] })
    (base : Nat) (e : TypeId) (i : TypeInfo) (z : Value) (size bytes : Nat) (ht : P.underlying t = some (.slice e)) (hi : P.info? e = some i) (hz : i.zero = some z)
    (hsize : i.size = size) (hby : i.bytes = bytes) (hzs : z.cells.size = size) (hsz : 0 < size)
    (v : Value) (n : Nat) (xs : List Value) (hs : a.eval s = v) (hown : w.ownsRow base e size v n xs)
    (ad : Addr) (m c : Nat) (news : List Value) (hx : a.eval x = .slice (some ad) m c) (hl : news.length = m * size) (hnews : ∀ j u, news[j]? = some u → w.cell? (ad.add j) = some u) (h1 : ∀ u ∈ news, u.oneCell' = true)
    (hm : 0 < m) (h63 : n + m ≤ maxLen) (hbytes : (n + m) * bytes ≤ 140737488355328) (hbase : base ≤ w.heap.size)
    (h : ∀ g cap w', App w w' base e size v g cap n m xs news → K (a.put o.dst (.slice (some ⟨g, 0, none⟩) (n + m) cap)) w') :
    if Region.wanted o (yielded ops a.tmps) = true then Oper.wp P o a w K Q else E := by
  have hw : Region.wanted o (yielded ops a.tmps) = true := by simp [Region.wanted, hgd]
  rw [if_pos hw]
  exact wp_app w s x t ho base e i z size bytes ht hi hz hsize hby hzs hsz v n xs hs hown ad m c news hx hl hnews h1 hm h63 hbytes hbase h
end

theorem App.far {w w' : World} {base : Nat} {e : TypeId} {size : Nat} {v : Value} {g cap n m : Nat} {xs news : List Value} (h : App w w' base e size v g cap n m xs news) {b o : Nat} (hb : b < w.heap.size) (hne : v.ownBlock ≠ some b) :
    w'.cell? ⟨b, o, none⟩ = w.cell? ⟨b, o, none⟩ := h.keep b o hb fun e => absurd e hne
theorem Rd.app {α : Type} {enc : α → List Value} {size B : Nat} {w w' : World} {g0 : Nat} {l0 : List α} {base e : Nat} {v : Value} {g cap n m : Nat} {xs news : List Value}
    (h : Rd enc size w B (some ⟨g0, 0, none⟩) l0) (hs : ∀ x, (enc x).length = size) (ha : App w w' base e size v g cap n m xs news) (hB : B ≤ w.heap.size) (hl : l0.length ≤ n) : Rd enc size w' B (some ⟨g0, 0, none⟩) l0 := by
  intro k x hx
  obtain ⟨b, off, e, hb, hc⟩ := h k x hx
  injection e with e
  injection e with e1 e2 _
  subst e1 e2
  refine ⟨g0, 0, rfl, hb, fun j u hu => (ha.keep _ _ (by omega) fun _ => ?_).trans (hc j u hu)⟩
  have hj : j < size := by have := (List.getElem?_eq_some_iff.1 hu).1; rw [hs] at this; exact this
  have hk : k < n := by have := (List.getElem?_eq_some_iff.1 hx).1; omega
  have := Nat.mul_le_mul_right size hk
  rw [Nat.succ_mul] at this
  omega
theorem own_mono {w : World} {base base' : Nat} {e : TypeId} {size : Nat} {v : Value} {n : Nat} {xs : List Value} (h : w.ownsRow base e size v n xs) (hb : base' ≤ base) : w.ownsRow base' e size v n xs := by
  refine ⟨h.1, ?_⟩
  rcases h.2 with h2 | ⟨g, cap, cur, hv, hg, r⟩
  · exact .inl h2
  · exact .inr ⟨g, cap, cur, hv, by omega, r⟩
theorem own_cap {w : World} {base : Nat} {e : TypeId} {size : Nat} {A : Option Addr} {n c : Nat} {xs : List Value} (h : w.ownsRow base e size (.slice A n c) n xs) : n ≤ c := by
  rcases h.2 with ⟨_, hn⟩ | ⟨g, cap, cur, hv, _, _, hnc, _⟩
  · omega
  · injection hv with _ _ h3
    omega
theorem own_below {w w' : World} {base B : Nat} {e : TypeId} {size : Nat} {v : Value} {n : Nat} {xs : List Value} (h : w.ownsRow base e size v n xs) (hb : Below B w w') (hB : w.heap.size ≤ B) : w'.ownsRow base e size v n xs := by
  refine ⟨h.1, ?_⟩
  rcases h.2 with h2 | ⟨g, cap, cur, hv, hg, hh, r⟩
  · exact .inl h2
  · exact .inr ⟨g, cap, cur, hv, hg, by rw [hb.block g (by have := (Array.getElem?_eq_some_iff.1 hh).1; omega)]; exact hh, r⟩
theorem App.one {α : Type} {enc : α → List Value} {size : Nat} {w w' : World} {base e : Nat} {v : Value} {g cap : Nat} {l : List α} {f : α} {news : List Value}
    (ha : App w w' base e size v g cap l.length 1 (l.flatMap enc) news) (hn : news = enc f) : OwnL enc size e base w' (.slice (some ⟨g, 0, none⟩) (l.length + 1) cap) (l ++ [f]) := by
  subst hn
  exact own_snoc ha.own

/-- What an append of one element wants to know of its element type: e's row of the table, the slice type t. -/
structure ElemOf {α : Type} (P : Program) (enc : α → List Value) (size bytes : Nat) (t e : TypeId) : Prop where
  info : ∃ z i, P.info? e = some i ∧ i.zero = some z ∧ i.size = size ∧ i.bytes = bytes ∧ z.cells.size = size
  ty : P.underlying t = some (.slice e)
  pos : 0 < size
  len : ∀ x, (enc x).length = size
  one : ∀ x, ∀ u ∈ enc x, u.oneCell' = true
theorem ElemOf.mk' {α : Type} {P : Program} {enc : α → List Value} {size bytes : Nat} {t e : TypeId} {z : Value} (hinfo : (P.info? e).map (fun i => (i.zero, i.size, i.bytes)) = some (some z, size, bytes)) (hzs : z.cells.size = size)
    (ht : P.underlying t = some (.slice e)) (hsz : 0 < size) (len : ∀ x, (enc x).length = size) (one : ∀ x, ∀ u ∈ enc x, u.oneCell' = true) : ElemOf P enc size bytes t e := by
  obtain ⟨i, hi, h0, h1, h2⟩ := info_parts hinfo
  exact ⟨⟨z, i, hi, h0, h1, h2, hzs⟩, ht, hsz, len, one⟩

section
variable {α : Type} {P : Program} {enc : α → List Value} {size bytes : Nat} {t e : TypeId}
theorem cells_block {w : World} {b : Nat} {cs : List Value} (hb : w.heap[b]? = some (.cells cs.toArray e (0, 0))) : ∀ j u, cs[j]? = some u → w.cell? ((⟨b, 0, none⟩ : Addr).add j) = some u := by
  intro j u hu
  rw [Addr.add_lit, cell_of_row w b (0 + j) cs.toArray e (0, 0) hb]
  simpa using hu
theorem wp_app1 (E : ElemOf P enc size bytes t e) (w : World) {o : Oper} {a : Act} {K : Act → World → Prop} {Q : Exit → Act → World → Prop} (s x : Operand)
    (ho : o.op = .call { callee := .builtin .append, args := #[s, x], argTypes := #[t, t] }) (base : Nat) (A : Option Addr) (c : Nat) (l : List α) (hs : a.eval s = .slice A l.length c) (hown : OwnL enc size e base w (.slice A l.length c) l)
    (f : α) (b c2 : Nat) (hx : a.eval x = .slice (some ⟨b, 0, none⟩) 1 c2) (hb : w.heap[b]? = some (.cells (enc f).toArray e (0, 0))) (h63 : l.length + 1 ≤ maxLen) (hbytes : (l.length + 1) * bytes ≤ 140737488355328) (hbase : base ≤ w.heap.size)
    (h : ∀ g cap w', App w w' base e size (.slice A l.length c) g cap l.length 1 (l.flatMap enc) (enc f) → K (a.put o.dst (.slice (some ⟨g, 0, none⟩) (l.length + 1) cap)) w') : o.wp P a w K Q := by
  obtain ⟨z, i, hi, h0, h1, h2, hzs⟩ := E.info
  exact wp_app w s x t ho base e i z size bytes E.ty hi h0 h1 h2 hzs E.pos _ _ _ hs hown ⟨b, 0, none⟩ 1 c2 (enc f) hx (by rw [E.len, Nat.one_mul]) (cells_block hb) (E.one f) (by decide) h63 hbytes hbase h
theorem wpList_app1 (E : ElemOf P enc size bytes t e) (w : World) {ops : Array Oper} {rest : List Oper} {o : Oper} {a : Act} {Q : Exit → Act → World → Prop} (hgd : o.guard = none) (s x : Operand)
    (ho : o.op = .call { callee := .builtin .append, args := #[s, x], argTypes := #[t, t] }) (base : Nat) (A : Option Addr) (c : Nat) (l : List α) (hs : a.eval s = .slice A l.length c) (hown : OwnL enc size e base w (.slice A l.length c) l)
    (f : α) (b c2 : Nat) (hx : a.eval x = .slice (some ⟨b, 0, none⟩) 1 c2) (hb : w.heap[b]? = some (.cells (enc f).toArray e (0, 0))) (h63 : l.length + 1 ≤ maxLen) (hbytes : (l.length + 1) * bytes ≤ 140737488355328) (hbase : base ≤ w.heap.size)
    (h : ∀ g cap w', App w w' base e size (.slice A l.length c) g cap l.length 1 (l.flatMap enc) (enc f) → wpList P ops Q rest (a.put o.dst (.slice (some ⟨g, 0, none⟩) (l.length + 1) cap)) w') : wpList P ops Q (o :: rest) a w :=
  wpList_plain hgd fun _ hK => wp_app1 E w s x ho base A c l hs hown f b c2 hx hb h63 hbytes hbase fun g cap w' h2 => hK _ _ (h g cap w' h2)
theorem step_app1 (E : ElemOf P enc size bytes t e) (w : World) {ops : Array Oper} {o : Oper} {a : Act} {K : Act → World → Prop} {Q : Exit → Act → World → Prop} {X : Prop} (hgd : o.guard = none) (s x : Operand)
    (ho : o.op = .call { callee := .builtin .append, args := #[s, x], argTypes := #[t, t] }) (base : Nat) (A : Option Addr) (c : Nat) (l : List α) (hs : a.eval s = .slice A l.length c) (hown : OwnL enc size e base w (.slice A l.length c) l)
    (f : α) (b c2 : Nat) (hx : a.eval x = .slice (some ⟨b, 0, none⟩) 1 c2) (hb : w.heap[b]? = some (.cells (enc f).toArray e (0, 0))) (h63 : l.length + 1 ≤ maxLen) (hbytes : (l.length + 1) * bytes ≤ 140737488355328) (hbase : base ≤ w.heap.size)
    (h : ∀ g cap w', App w w' base e size (.slice A l.length c) g cap l.length 1 (l.flatMap enc) (enc f) → K (a.put o.dst (.slice (some ⟨g, 0, none⟩) (l.length + 1) cap)) w') :
    if Region.wanted o (yielded ops a.tmps) = true then Oper.wp P o a w K Q else X := by
  have hw : Region.wanted o (yielded ops a.tmps) = true := by simp [Region.wanted, hgd]
  rw [if_pos hw]
  exact wp_app1 E w s x ho base A c l hs hown f b c2 hx hb h63 hbytes hbase h

/-- Behind an append of one element in a world w0 that is the round's (wr) but for new blocks: the list has grown, what was below is as it was. -/
theorem app1_end {w wr w0 w1 : World} {base : Nat} {l : List α} {f : α} {A : Option Addr} {c g cap : Nat} (hb : Below w.heap.size w wr) (hbase : ∀ k, (Value.slice A l.length c).ownBlock = some k → w.heap.size ≤ k)
    (hw : Below wr.heap.size wr w0) (ha : App w0 w1 base e size (.slice A l.length c) g cap l.length 1 (l.flatMap enc) (enc f)) :
    Below w.heap.size w w1 ∧ OwnL enc size e base w1 (.slice (some ⟨g, 0, none⟩) (l ++ [f]).length cap) (l ++ [f]) := by
  have hsz := hw.size
  have hs2 := hb.size
  refine ⟨(hb.trans (hw.mono hs2)).grown ha.grown (by omega) hbase, ?_⟩
  have := ha.one rfl
  simpa [OwnL] using this
end
theorem Keep.app {w wx w0 w1 : World} {cs : List (Nat × Nat × Value)} {base : Nat} {e : TypeId} {size : Nat} {v : Value} {g cap n m : Nat} {xs news : List Value} (h : Keep w wx cs) (hw : Below wx.heap.size wx w0)
    (ha : App w0 w1 base e size v g cap n m xs news) (hbase : ∀ b, v.ownBlock = some b → w.heap.size ≤ b) (hne : ∀ c ∈ cs, v.ownBlock ≠ some c.1) : Keep w w1 cs := by
  have hs := hw.size
  have h1 := h.1.size
  refine ⟨(h.1.trans (hw.mono h1)).grown ha.grown (by omega) hbase, fun c hc => ⟨?_, ?_⟩⟩
  · have := (h.2 c hc).1; have := ha.grown.size; omega
  · rw [ha.far (by have := (h.2 c hc).1; omega) (hne c hc), hw.cell (p := ⟨c.1, c.2.1, none⟩) (h.2 c hc).1]; exact (h.2 c hc).2
end Go.Proofs.YtdbiihfoafoljaaGreatDoor
