/-
  A region that draws its order, whose last operation waits for all the others: the others quiet in a class of worlds, the last one walked from whatever world of the class.
-/
import Derived.Test.YtpninpohligomaaGreatDoorBase
import Derived.Orders
import Derived.Deep.Quiet
set_option linter.unusedSimpArgs false
set_option linter.unusedVariables false
namespace Go.Proofs.YtpninpohligomaaGreatDoor
open Go.RowKit

/-- Operation i may come: it is not listed, and what it waits for is. -/
def okAt (md : Region.Mode) (l : List Oper) (listed : Array Bool) (i : Nat) : Prop := ∃ x, l[i]? = some x ∧ listed.getD i true = false ∧ ∀ e ∈ x.after, Region.binds md e = true → listed.getD e.on false = true
theorem mem_ready {md : Region.Mode} {l : List Oper} {listed : Array Bool} {i : Nat} : i ∈ Region.ready md l.toArray listed ↔ okAt md l listed i := by
  unfold Region.ready okAt
  rw [List.mem_filter, List.mem_range]
  constructor
  · rintro ⟨h1, h2⟩
    simp only [List.size_toArray] at h1
    simp only [List.getElem?_toArray, Bool.and_eq_true, Bool.not_eq_true'] at h2
    obtain ⟨h2, h3⟩ := h2
    rw [List.getElem?_eq_getElem h1] at h3
    simp only [Option.map_some, Option.getD_some, Array.all_eq_true'] at h3
    refine ⟨l[i], List.getElem?_eq_getElem h1, h2, fun e he hb => ?_⟩
    have := h3 e he
    simpa [hb] using this
  · rintro ⟨x, hx, h2, h3⟩
    have h1 := (List.getElem?_eq_some_iff.1 hx).1
    refine ⟨by simpa using h1, ?_⟩
    simp only [List.getElem?_toArray, hx, Bool.and_eq_true, Bool.not_eq_true', Option.map_some, Option.getD_some, Array.all_eq_true']
    refine ⟨h2, fun e he => ?_⟩
    cases hb : Region.binds md e
    · rfl
    · simpa using h3 e he hb
/-- Does x wait for i? -/
def waitsB (md : Region.Mode) (x : Oper) (i : Nat) : Bool := x.after.any fun e => Region.binds md e && e.on == i
structure Shape (md : Region.Mode) (l : List Oper) (o : Oper) : Prop where
  guards : ∀ x ∈ l, x.guard = none
  guard : o.guard = none
  back : ∀ i x, l[i]? = some x → ∀ e ∈ x.after, Region.binds md e = true → e.on < i
  backo : ∀ e ∈ o.after, Region.binds md e = true → e.on < l.length
  cover : ∀ i, i < l.length → waitsB md o i = true ∨ ∃ j x, i < j ∧ l[j]? = some x ∧ waitsB md x i = true
def shapeB (md : Region.Mode) (l : List Oper) (o : Oper) : Bool :=
  (l.all fun x => x.guard.isNone) && o.guard.isNone && (List.range l.length).all (fun i => (l[i]?).all fun x => x.after.all fun e => !Region.binds md e || decide (e.on < i)) &&
  (o.after.all fun e => !Region.binds md e || decide (e.on < l.length)) &&
  (List.range l.length).all fun i => waitsB md o i || (List.range l.length).any fun j => decide (i < j) && (l[j]?).any fun x => waitsB md x i
theorem Shape.of {md : Region.Mode} {l : List Oper} {o : Oper} (h : shapeB md l o = true) : Shape md l o := by
  unfold shapeB at h
  simp only [Bool.and_eq_true, List.all_eq_true, List.mem_range, Array.all_eq_true'] at h
  obtain ⟨⟨⟨⟨h1, h2⟩, h3⟩, h4⟩, h5⟩ := h
  refine ⟨fun x hx => by have := h1 x hx; simpa using this, by simpa using h2, fun i x hx e he hb => ?_, fun e he hb => ?_, fun i hi => ?_⟩
  · have := h3 i (List.getElem?_eq_some_iff.1 hx).1
    rw [hx] at this
    simp only [Option.all_some, Array.all_eq_true'] at this
    have := this e he
    simpa [hb] using this
  · have := h4 e he
    simpa [hb] using this
  · have := h5 i hi
    simp only [Bool.or_eq_true, List.any_eq_true, List.mem_range, Bool.and_eq_true, decide_eq_true_eq] at this
    rcases this with h | ⟨j, hj, hij, hx⟩
    · exact .inl h
    · rw [List.getElem?_eq_getElem hj] at hx
      exact .inr ⟨j, l[j], hij, List.getElem?_eq_getElem hj, by simpa using hx⟩
theorem waits_iff {md : Region.Mode} {x : Oper} {i : Nat} : waitsB md x i = true ↔ ∃ e ∈ x.after, Region.binds md e = true ∧ e.on = i := by
  unfold waitsB
  rw [Array.any_eq_true']
  simp
/-- What is listed is closed under waiting. -/
def Closed (md : Region.Mode) (l : List Oper) (listed : Array Bool) : Prop := ∀ i x, l[i]? = some x → listed.getD i false = true → ∀ e ∈ x.after, Region.binds md e = true → listed.getD e.on false = true
theorem getD_lt {a : Array Bool} {i : Nat} (h : i < a.size) (d d' : Bool) : a.getD i d = a.getD i d' := by simp [Array.getD, h]
theorem all_of_none {md : Region.Mode} {l : List Oper} {o : Oper} (S : Shape md l o) {listed : Array Bool} (hs : listed.size = l.length) (h : Region.ready md l.toArray listed = []) : ∀ i, i < l.length → listed.getD i false = true := by
  intro i
  induction i using Nat.strongRecOn with
  | ind i ih =>
    intro hi
    cases hl : listed.getD i false with
    | true => rfl
    | false =>
      exfalso
      have : i ∈ Region.ready md l.toArray listed := mem_ready.2 ⟨l[i], List.getElem?_eq_getElem hi, by rw [getD_lt (by omega) true false]; exact hl, fun e he hb => by
        have := S.back i _ (List.getElem?_eq_getElem hi) e he hb
        exact ih e.on this (by omega)⟩
      rw [h] at this
      cases this
theorem all_of_last {md : Region.Mode} {l : List Oper} {o : Oper} (S : Shape md l o) {listed : Array Bool} (hc : Closed md l listed) (hw : ∀ e ∈ o.after, Region.binds md e = true → listed.getD e.on false = true) : ∀ i, i < l.length → listed.getD i false = true := by
  have key : ∀ d i, i < l.length → l.length - i = d → listed.getD i false = true := by
    intro d
    induction d using Nat.strongRecOn with
    | ind d ih =>
      intro i hi hd
      rcases S.cover i hi with h | ⟨j, x, hij, hx, h⟩
      · obtain ⟨e, he, hb, rfl⟩ := waits_iff.1 h
        exact hw e he hb
      · obtain ⟨e, he, hb, rfl⟩ := waits_iff.1 h
        have hj := (List.getElem?_eq_some_iff.1 hx).1
        exact hc j x hx (ih (l.length - j) (by omega) j hj rfl) e he hb
  exact fun i hi => key _ i hi rfl
theorem push_getD {a : Array Bool} {i : Nat} {b d : Bool} (h : i < a.size) : (a.push b).getD i d = a.getD i d := by
  simp only [Array.getD_eq_getD_getElem?, Array.getElem?_push]
  rw [if_neg (by omega)]
theorem ready_push {md : Region.Mode} {l : List Oper} {o : Oper} (S : Shape md l o) {listed : Array Bool} (hs : listed.size = l.length) {i : Nat} (hi : i < l.length) : i ∈ Region.ready md (l ++ [o]).toArray (listed.push false) ↔ i ∈ Region.ready md l.toArray listed := by
  rw [mem_ready, mem_ready]
  unfold okAt
  rw [List.getElem?_append_left hi, push_getD (by omega)]
  constructor
  · rintro ⟨x, hx, h1, h2⟩
    exact ⟨x, hx, h1, fun e he hb => by have := h2 e he hb; rwa [push_getD (by have := S.back i x hx e he hb; omega)] at this⟩
  · rintro ⟨x, hx, h1, h2⟩
    exact ⟨x, hx, h1, fun e he hb => by rw [push_getD (by have := S.back i x hx e he hb; omega)]; exact h2 e he hb⟩
theorem last_ready {md : Region.Mode} {l : List Oper} {o : Oper} (S : Shape md l o) {listed : Array Bool} (hs : listed.size = l.length) : l.length ∈ Region.ready md (l ++ [o]).toArray (listed.push false) ↔ ∀ e ∈ o.after, Region.binds md e = true → listed.getD e.on false = true := by
  rw [mem_ready]
  unfold okAt
  rw [List.getElem?_append_right (Nat.le_refl _), Nat.sub_self]
  constructor
  · rintro ⟨x, hx, h1, h2⟩ e he hb
    simp at hx
    subst hx
    have := h2 e he hb
    rwa [push_getD (by have := S.backo e he hb; omega)] at this
  · intro h
    refine ⟨o, rfl, ?_, fun e he hb => by rw [push_getD (by have := S.backo e he hb; omega)]; exact h e he hb⟩
    simp [Array.getD_eq_getD_getElem?, ← hs]
theorem wanted_none {o : Oper} {f : Nat → Option Bool} (h : o.guard = none) : Region.wanted o f = true := by simp [Region.wanted, h]
section
variable {P : Program} {md : Region.Mode} {l : List Oper} {o : Oper} {C : World → Prop}
theorem none_left (S : Shape md l o) {listed : Array Bool} (hs : listed.size = l.length) (hall : ∀ i, i < l.length → listed.getD i false = true) : Region.ready md (l ++ [o]).toArray ((listed.push false).setIfInBounds l.length true) = [] := by
  rw [List.eq_nil_iff_forall_not_mem]
  intro i hi
  obtain ⟨x, hx, h1, _⟩ := mem_ready.1 hi
  have hlt := (List.getElem?_eq_some_iff.1 hx).1
  simp only [List.length_append, List.length_cons, List.length_nil] at hlt
  rw [Array.getD_eq_getD_getElem?, Array.getElem?_setIfInBounds] at h1
  by_cases e : l.length = i
  · rw [if_pos e] at h1
    simp [hs] at h1
  · rw [if_neg e] at h1
    have h2 := hall i (by omega)
    rw [← Array.getD_eq_getD_getElem?, push_getD (by omega), getD_lt (by omega) true false, h2] at h1
    cases h1
theorem wpAny_last (S : Shape md l o) {Q : Act → Prop} {Q' : Exit → Act → World → Prop}
    (hlast : ∀ a w, C w → Q a → o.wp P a w (fun a' w' => Q' .normal a' w') Q') :
    ∀ (fuel : Nat) (listed : Array Bool) (a : Act) (w : World), listed.size = l.length → Closed md l listed → C w → wpAnyQ P md l.toArray C Q fuel listed a → wpAny P md (l ++ [o]).toArray Q' (fuel + 1) (listed.push false) a w := by
  have hget : (l ++ [o]).toArray[l.length]? = some o := by simp
  have hfin : ∀ (listed : Array Bool) (a : Act) (w : World) (fuel : Nat), listed.size = l.length → (∀ i, i < l.length → listed.getD i false = true) → C w → Q a →
      wpOp P (l ++ [o]).toArray Q' l.length (wpAny P md (l ++ [o]).toArray Q' fuel ((listed.push false).setIfInBounds l.length true)) a w := by
    intro listed a w fuel hs hall hw hq
    unfold wpOp
    rw [hget]
    simp only [wanted_none S.guard, if_true]
    refine .inl (Oper.wp_mono (fun a' w' h => ?_) (hlast a w hw hq))
    have hn := none_left S hs hall
    cases fuel with
    | zero => exact ⟨hn, h⟩
    | succ n => exact ⟨fun _ => h, fun i hi => by rw [hn] at hi; cases hi⟩
  have hempty : ∀ (listed : Array Bool), listed.size = l.length → Region.ready md (l ++ [o]).toArray (listed.push false) = [] → False := by
    intro listed hs h
    have h1 : Region.ready md l.toArray listed = [] := by
      rw [List.eq_nil_iff_forall_not_mem]
      intro i hi
      have hlt : i < l.length := by obtain ⟨x, hx, _⟩ := mem_ready.1 hi; exact (List.getElem?_eq_some_iff.1 hx).1
      have := (ready_push S hs hlt).2 hi
      rw [h] at this
      cases this
    have hall := all_of_none S hs h1
    have := (last_ready S hs).2 (fun e he hb => hall _ (S.backo e he hb))
    rw [h] at this
    cases this
  have hsplit : ∀ (listed : Array Bool) (i : Nat), i ∈ Region.ready md (l ++ [o]).toArray (listed.push false) → i < l.length ∨ i = l.length := by
    intro listed i hi
    obtain ⟨x, hx, _⟩ := mem_ready.1 hi
    have := (List.getElem?_eq_some_iff.1 hx).1
    simp at this
    omega
  intro fuel
  induction fuel with
  | zero =>
    intro listed a w hs hc hw h
    obtain ⟨h1, hq⟩ := h
    refine ⟨fun h => (hempty listed hs h).elim, fun i hi => ?_⟩
    rcases hsplit listed i hi with h2 | rfl
    · have := (ready_push S hs h2).1 hi
      rw [h1] at this
      cases this
    · exact hfin listed a w 0 hs (all_of_none S hs h1) hw hq
  | succ fuel ih =>
    intro listed a w hs hc hw h
    obtain ⟨h1, h2⟩ := h
    refine ⟨fun h => (hempty listed hs h).elim, fun i hi => ?_⟩
    rcases hsplit listed i hi with hlt | rfl
    · have hr := (ready_push S hs hlt).1 hi
      have hq := h2 i hr
      obtain ⟨x, hx, hx1, hx2⟩ := mem_ready.1 hr
      have hxg := S.guards x (List.mem_of_getElem? hx)
      have hL : l.toArray[i]? = some x := by simpa using hx
      have hF : (l ++ [o]).toArray[i]? = some x := by simp only [List.getElem?_toArray]; rw [List.getElem?_append_left hlt]; exact hx
      unfold qOp at hq
      rw [hL] at hq
      simp only [wanted_none hxg, if_true] at hq
      unfold wpOp
      rw [hF]
      simp only [wanted_none hxg, if_true]
      refine .inl (Oper.wp_of_quiet hw (fun a' w' hw' hk => ?_) hq)
      have hcomm : (listed.push false).setIfInBounds i true = (listed.setIfInBounds i true).push false := by
        apply Array.ext_getElem?
        intro j
        rw [Array.getElem?_setIfInBounds, Array.getElem?_push, Array.getElem?_push, Array.getElem?_setIfInBounds, Array.size_setIfInBounds, Array.size_push]
        by_cases e1 : i = j
        · subst e1
          rw [if_pos rfl, if_pos (by omega), if_neg (by omega), if_pos rfl, if_pos (by omega)]
        · rw [if_neg e1, if_neg e1]
      rw [hcomm]
      refine ih _ a' w' (by simpa using hs) ?_ hw' hk
      intro j y hy hj e he hb
      rw [Array.getD_eq_getD_getElem?, Array.getElem?_setIfInBounds] at hj ⊢
      by_cases eij : i = j
      · subst eij
        rw [hx] at hy
        injection hy with hy
        subst hy
        have h5 := hx2 e he hb
        by_cases e2 : i = e.on
        · rw [if_pos e2, if_pos (by omega)]; rfl
        · rw [if_neg e2, ← Array.getD_eq_getD_getElem?]; exact h5
      · rw [if_neg eij, ← Array.getD_eq_getD_getElem?] at hj
        have h5 := hc j y hy hj e he hb
        by_cases e2 : i = e.on
        · rw [if_pos e2, if_pos (by omega)]; rfl
        · rw [if_neg e2, ← Array.getD_eq_getD_getElem?]; exact h5
    · have hdep := (last_ready S hs).1 hi
      have hall := all_of_last S hc hdep
      have hq : Q a := h1 (by
        rw [List.eq_nil_iff_forall_not_mem]
        intro j hj
        obtain ⟨x, hx, hx1, _⟩ := mem_ready.1 hj
        have hjl := (List.getElem?_eq_some_iff.1 hx).1
        have := hall j hjl
        rw [getD_lt (by omega) true false, this] at hx1
        cases hx1)
      exact hfin listed a w (fuel + 1) hs hall hw hq
/-- The region: all but the last one quiet in the class, the last one from every world of the class. -/
theorem wp_region_last {id : Nat} {Q : Exit → Act → World → Prop} {a : Act} {w : World} (hm : P.follows .mixedOrders = true) (hS : shapeB .any l o = true) (hB : Region.lexB .any l.toArray = true) (hC : C w.drew)
    (h : wpQuiet P l.toArray C (fun a' => ∀ w', C w' → o.wp P a' w' (fun a'' w'' => Q .normal a'' w'') Q) l a) : (Code.region id (l ++ [o]).toArray true).wp P Q a w := by
  have S := Shape.of hS
  simp only [Region.lexB, Bool.and_eq_true] at hB
  refine wp_region_any hm ?_
  have hq := wpAnyQ_lex (C := C) (md := .any) hB.1 l 0 (Array.replicate l.length false) a (by simp) (by simpa using hB.2) h
  have := wpAny_last (P := P) S (C := C) (Q := fun a' => ∀ w', C w' → o.wp P a' w' (fun a'' w'' => Q .normal a'' w'') Q) (Q' := Q) (fun a w hw h => h w hw) l.length (Array.replicate l.length false) a w.drew (by simp) (by
    intro i x hx hi
    have := (List.getElem?_eq_some_iff.1 hx).1
    simp [Array.getD_eq_getD_getElem?, this] at hi) hC hq
  have e : (Array.replicate l.length false).push false = Array.replicate (l ++ [o]).toArray.size false := by
    rw [← Array.replicate_succ]; simp
  rw [e] at this
  have e2 : (l ++ [o]).toArray.size = l.length + 1 := by simp
  rw [e2] at this ⊢
  exact this
theorem wp_region_lastL {id : Nat} {Q : Exit → Act → World → Prop} {a : Act} {w : World} {L : List Oper} (hne : L ≠ []) (hm : P.follows .mixedOrders = true) (hS : shapeB .any L.dropLast (L.getLast hne) = true) (hB : Region.lexB .any L.dropLast.toArray = true) (hC : C w.drew)
    (h : wpQuiet P L.dropLast.toArray C (fun a' => ∀ w', C w' → (L.getLast hne).wp P a' w' (fun a'' w'' => Q .normal a'' w'') Q) L.dropLast a) : (Code.region id L.toArray true).wp P Q a w := by
  have := wp_region_last (id := id) hm hS hB hC h
  rwa [List.dropLast_concat_getLast] at this
end
end Go.Proofs.YtpninpohligomaaGreatDoor
