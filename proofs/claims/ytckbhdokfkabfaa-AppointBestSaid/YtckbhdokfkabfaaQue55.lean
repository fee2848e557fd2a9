/-
  Chapter 55: a queue: a slice of the call's own whose head moves on.
-/
import Derived.Test.YtckbhdokfkabfaaCop55
import Derived.Deep.AppendSrc
set_option linter.unusedSimpArgs false
set_option linter.unusedVariables false
namespace Go.Proofs.Ytckbhdokfkabfaa
open Go.RowKit
set_option maxRecDepth 100000
set_option maxHeartbeats 4000000
structure QuL (B : Nat) (w : World) (A : Option Addr) (c : Nat) (l : List Nat) : Prop where
  le : l.length ≤ c
  max : c ≤ maxLen
  nil : A = none → c = 0
  at_ : ∀ a, A = some a → ∃ g off, a = ⟨g, off, none⟩ ∧ B ≤ g ∧ g < w.heap.size ∧ (∀ j : Nat, j < c → (w.cell? ⟨g, off + j, none⟩).isSome = true ∧ w.frozen? ⟨g, off + j, none⟩ = false) ∧ ∀ (j x : Nat), l[j]? = some x → w.cell? ⟨g, off + j, none⟩ = some (.int .i64 (x : Int))
theorem QuL.of {B e : Nat} {w : World} {A : Option Addr} {c : Nat} {l : List Nat} (h : OwnL nE 1 e B w (.slice A l.length c) l) : QuL B w A c l := by
  rcases h.2 with ⟨hv, h0⟩ | ⟨g, cap, cur, hv, hb, hh, hn, hm, hs, ht⟩
  · injection hv with h1 h2 h3
    subst h1 h3
    exact ⟨by omega, Nat.zero_le _, fun _ => rfl, fun a e => by cases e⟩
  · injection hv with h1 h2 h3
    subst h1 h3
    refine ⟨hn, hm, (fun e => by cases e), fun a e => ?_⟩
    injection e with e
    subst e
    refine ⟨g, 0, rfl, hb, (Array.getElem?_eq_some_iff.1 hh).1, fun j hj => ?_, fun j x hx => ?_⟩
    · rw [Nat.zero_add]
      refine ⟨?_, World.ownsRow.frozenAt (g := g) h j⟩
      rw [cell_of_row w g j _ e (0, 0) hh, Array.getElem?_eq_getElem (by omega)]
      rfl
    · rw [Nat.zero_add]
      have hc := World.ownsRow.cellAt (g := g) h j (by have := (List.getElem?_eq_some_iff.1 hx).1; omega)
      have hf := flat_at nE_len l j x hx 0 _ rfl
      rw [Nat.mul_one, Nat.add_zero] at hf
      exact hc.trans hf
theorem QuL.far {B : Nat} {bs : List Nat} {w w' : World} {A : Option Addr} {c : Nat} {l : List Nat} (h : QuL B w A c l) (hf : Far bs w w') (hn : ∀ b ∈ adB A, b ∉ bs) : QuL B w' A c l := by
  refine ⟨h.le, h.max, h.nil, fun a e => ?_⟩
  obtain ⟨g, off, e2, h1, h2, h3, h4⟩ := h.at_ a e
  have hb := hf.block g h2 (hn g (by rw [e, e2]; simp [adB]))
  exact ⟨g, off, e2, h1, Nat.lt_of_lt_of_le h2 hf.size, fun j hj => ⟨by rw [World.cell?_of_block (a := ⟨g, off + j, none⟩) hb]; exact (h3 j hj).1, by rw [World.frozen?_of_block (a := ⟨g, off + j, none⟩) hb]; exact (h3 j hj).2⟩, fun j x hx => (World.cell?_of_block (a := ⟨g, off + j, none⟩) hb).trans (h4 j x hx)⟩
theorem QuL.to {B : Nat} {w w' : World} {A : Option Addr} {c : Nat} {l : List Nat} (h : QuL B w A c l) (hb : Below w.heap.size w w') : QuL B w' A c l := h.far (Far.of (bs := []) hb) (fun b _ => by simp)
theorem QuL.inB {B : Nat} {w : World} {A : Option Addr} {c : Nat} {l : List Nat} (h : QuL B w A c l) : ∀ b ∈ adB A, B ≤ b ∧ b < w.heap.size := by
  intro b hb
  cases A with
  | none => simp [adB] at hb
  | some a =>
    obtain ⟨g, off, e, h1, h2, _⟩ := h.at_ a rfl
    subst e
    simp [adB] at hb
    subst hb
    exact ⟨h1, h2⟩
theorem QuL.head {B : Nat} {w : World} {A : Option Addr} {c m : Nat} {l : List Nat} (h : QuL B w A c (m :: l)) : ∃ g off, A = some ⟨g, off, none⟩ ∧ w.cell? ⟨g, off, none⟩ = some (.int .i64 (m : Int)) ∧ g < w.heap.size ∧ 1 ≤ c ∧ QuL B w (some ⟨g, off + 1, none⟩) (c - 1) l := by
  have hle := h.le
  simp at hle
  cases A with
  | none => have := h.nil rfl; omega
  | some a =>
    obtain ⟨g, off, e, h1, h2, h3, h4⟩ := h.at_ a rfl
    subst e
    refine ⟨g, off, rfl, by simpa using h4 0 m rfl, h2, by omega, ⟨by omega, by have := h.max; omega, (fun e => by cases e), fun a e => ?_⟩⟩
    injection e with e
    subst e
    refine ⟨g, off + 1, rfl, h1, h2, fun j hj => ?_, fun j x hx => ?_⟩
    · have := h3 (j + 1) (by omega)
      rwa [show off + (j + 1) = off + 1 + j by omega] at this
    · have := h4 (j + 1) x (by simpa using hx)
      rwa [show off + (j + 1) = off + 1 + j by omega] at this
theorem run_appQ (B : Nat) (w : World) (A : Option Addr) (c : Nat) (l : List Nat) (h : QuL B w A c l) (hB : B ≤ w.heap.size) (x b c2 : Nat) (ty : TypeId) (hb : w.heap[b]? = some (.cells (nE x).toArray 3 (0, 0))) (hbA : ∀ g ∈ adB A, g ≠ b) (hl : l.length ≤ 1000000) :
    ∃ A' c' w', (Builtin.append_ #[38, 38] ty #[.slice A l.length c, .slice (some ⟨b, 0, none⟩) 1 c2]).run Try.prog w = .ok (.slice A' (l.length + 1) c') w' ∧ QuL B w' A' c' (l ++ [x]) ∧ Far (adB A) w w' ∧ (∀ g ∈ adB A', g ∈ adB A ∨ w.heap.size ≤ g) := by
  obtain ⟨z, i, hi, h0, h1, h2, hzs⟩ := Try.nElem.info
  have hnews : ∀ j u, (nE x)[j]? = some u → w.cell? ((⟨b, 0, none⟩ : Addr).add j) = some u := cells_block hb
  have hone : ∀ u ∈ nE x, u.oneCell' = true := Try.nElem.one x
  have hzc : z.cells.size = 1 := hzs
  have big : ∀ base, (w.drew.alloc (.cells ((l.flatMap nE).toArray ++ (nE x).toArray ++ Builtin.zeroCells z.cells (grownCap w (l.length + 1) base 3 - (l.length + 1))) 3)).ownsRow B 3 1 (.slice (some ⟨w.heap.size, 0, none⟩) (l.length + 1) (grownCap w (l.length + 1) base 3)) (l.length + 1) ((l ++ [x]).flatMap nE) := by
    intro base
    have hge := grownCap_ge w (l.length + 1) base 3
    have hcm : grownCap w (l.length + 1) base 3 ≤ maxLen := grownCap_le_maxLen w (l.length + 1) base 3 (by unfold maxLen; omega)
    have hfl : (l.flatMap nE).length = l.length := by rw [flat_length nE_len]; omega
    refine ⟨by rw [flat_length nE_len]; simp, .inr ⟨w.heap.size, _, _, rfl, hB, heap_alloc_new w.drew _, hge, hcm, ?_, ?_⟩⟩
    · simp only [Array.size_append, List.size_toArray, size_zeroCells, hzc, hfl, nE_len]
      omega
    · simp only [Array.toList_append, List.append_assoc]
      rw [← List.append_assoc, List.flatMap_append, List.flatMap_cons, List.flatMap_nil, List.append_nil]
      rw [List.take_append_of_le_length (by simp [hfl, nE_len])]
      exact List.take_of_length_le (by simp [hfl, nE_len])
  have hfarG : ∀ o, Far (adB A) w (w.drew.alloc o) := fun o => ⟨rfl, rfl, rfl, by simp, fun k hk _ => Below.heap_alloc w.drew _ k hk⟩
  cases A with
  | none =>
    have hc0 := h.nil rfl
    subst hc0
    have hle := h.le
    obtain rfl : l = [] := List.eq_nil_of_length_eq_zero (by omega)
    have hr := run_append_nil (P := Try.prog) w 38 ty 3 i z Try.nElem.ty hi h0 ⟨b, 0, none⟩ 1 c2 (nE x) (by rw [h1]; rfl) hnews (by decide) (by decide) (by rw [h2]; decide)
    refine ⟨_, _, _, hr, ?_, hfarG _, fun g hg => Or.inr (by simp [adB] at hg; omega)⟩
    have hq := big 0
    simp only [List.flatMap_nil, List.length_nil, Nat.zero_add, List.nil_append] at hq ⊢
    exact QuL.of (e := 3) (show OwnL nE 1 3 B _ (.slice _ [x].length _) [x] from by unfold OwnL; simpa using hq)
  | some a =>
    obtain ⟨g, off, e, hg1, hg2, hg3, hg4⟩ := h.at_ a rfl
    subst e
    by_cases hroom : l.length + 1 ≤ c
    · have hs := Src.ofSlice (P := Try.prog) w (size := i.size) Try.nElem.ty ⟨b, 0, none⟩ 1 c2 (nE x) (by rw [h1]; rfl) hnews hone
      have hr := run_append_room_src (P := Try.prog) w 38 38 ty 3 i Try.nElem.ty hi g off l.length c (.slice (some ⟨b, 0, none⟩) 1 c2) 1 (nE x) hs hroom
        (fun j hj => by have : j = 0 := by simpa [nE] using hj
                        subst this
                        rw [h1, Nat.mul_one, Nat.add_zero]; exact (hg3 l.length (by omega)).1)
        (fun j hj => by have : j = 0 := by simpa [nE] using hj
                        subst this
                        rw [h1, Nat.mul_one, Nat.add_zero]; exact (hg3 l.length (by omega)).2)
      rw [h1, Nat.mul_one] at hr
      have hw : w.setCells g (off + l.length) (nE x) = w.setCell ⟨g, off + l.length, none⟩ (.int .i64 (x : Int)) := rfl
      rw [hw] at hr
      have hF := Far.cell w g (off + l.length) (.int .i64 (x : Int))
      refine ⟨_, _, _, hr, ⟨by simpa using hroom, h.max, (fun e => by cases e), fun a e => ?_⟩, hF.sub (fun y hy => by simp at hy; subst hy; simp [adB]), fun y hy => Or.inl hy⟩
      injection e with e
      subst e
      refine ⟨g, off, rfl, hg1, Nat.lt_of_lt_of_le hg2 hF.size, fun j hj => ?_, fun j y hy => ?_⟩
      · obtain ⟨k1, k2⟩ := hg3 j hj
        by_cases ej : j = l.length
        · subst ej
          obtain ⟨y0, hy0⟩ := Option.isSome_iff_exists.1 k1
          exact ⟨by rw [World.cell?_setCell_same w _ _ hy0]; rfl, by rw [World.frozen?_setCell]; exact k2⟩
        · exact ⟨by rw [World.cell?_setCell_other w _ _ _ (by intro e; injection e with _ e _; omega)]; exact k1, by rw [World.frozen?_setCell]; exact k2⟩
      · by_cases ej : j < l.length
        · rw [List.getElem?_append_left ej] at hy
          rw [World.cell?_setCell_other w _ _ _ (by intro e; injection e with _ e _; omega)]
          exact hg4 j y hy
        · rw [List.getElem?_append_right (by omega)] at hy
          have e0 : j - l.length = 0 := by have := (List.getElem?_eq_some_iff.1 hy).1; simp at this; omega
          rw [e0] at hy
          simp at hy
          subst hy
          have ej2 : j = l.length := by omega
          subst ej2
          obtain ⟨y0, hy0⟩ := Option.isSome_iff_exists.1 (hg3 l.length (by omega)).1
          exact World.cell?_setCell_same w _ _ hy0
    · have hr := run_append_grow (P := Try.prog) w 38 ty 3 i z Try.nElem.ty hi h0 ⟨g, off, none⟩ l.length c (l.flatMap nE) (by rw [flat_length nE_len, h1])
        (fun j v hv => by
          obtain ⟨k, y, r, hk, hr, hj⟩ := flat_inv nE_len l j v hv
          have hr0 : r = 0 := by have := (List.getElem?_eq_some_iff.1 hr).1; simp [nE] at this; exact this
          subst hr0
          have hv2 : v = .int .i64 (y : Int) := by simpa [nE] using hr.symm
          rw [hv2, Addr.add_mid, hj, Nat.mul_one, Nat.add_zero]
          exact hg4 k y hk)
        ⟨b, 0, none⟩ 1 c2 (nE x) (by rw [h1]; rfl) hnews (by omega) (by omega) (growslice_fits (by omega) (by rw [h2]; omega))
      refine ⟨_, _, _, hr, ?_, hfarG _, fun g hg => Or.inr (by simp [adB] at hg; omega)⟩
      have hq := big c
      exact QuL.of (e := 3) (show OwnL nE 1 3 B _ (.slice _ (l ++ [x]).length _) (l ++ [x]) from by rw [List.length_append]; unfold OwnL; rw [List.length_append]; exact hq)
theorem wpList_appQ (B : Nat) (w : World) {ops : Array Oper} {rest : List Oper} {o : Oper} {a : Act} {Q : Exit → Act → World → Prop} (hgd : o.guard = none) (s y : Operand)
    (ho : o.op = .call { callee := .builtin .append, args := #[s, y], argTypes := #[38, 38] }) (A : Option Addr) (c : Nat) (l : List Nat) (hs : a.eval s = .slice A l.length c) (h : QuL B w A c l) (hB : B ≤ w.heap.size)
    (x b c2 : Nat) (hy : a.eval y = .slice (some ⟨b, 0, none⟩) 1 c2) (hb : w.heap[b]? = some (.cells (nE x).toArray 3 (0, 0))) (hbA : ∀ g ∈ adB A, g ≠ b) (hl : l.length ≤ 1000000)
    (hK : ∀ A' c' w', QuL B w' A' c' (l ++ [x]) → Far (adB A) w w' → (∀ g ∈ adB A', g ∈ adB A ∨ w.heap.size ≤ g) → wpList Try.prog ops Q rest (a.put o.dst (.slice A' (l.length + 1) c')) w') :
    wpList Try.prog ops Q (o :: rest) a w := by
  refine wpList_plain hgd fun K' hK' => ?_
  obtain ⟨A', c', w', hr, h1, h2, h3⟩ := run_appQ B w A c l h hB x b c2 o.type hb hbA hl
  unfold Oper.wp execOp
  simp only [ho, resolve, invoke, builtin, Sem.run_bind, Sem.run_pure, Result.andThen_ok, List.map_toArray, List.map_cons, List.map_nil, hs, hy, hr]
  exact hK' _ _ (hK A' c' w' h1 h2 h3)
end Go.Proofs.Ytckbhdokfkabfaa
