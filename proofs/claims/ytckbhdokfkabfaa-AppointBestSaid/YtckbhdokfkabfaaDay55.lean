/-
  Chapter 55: the matches by their days: plain, and in a map of the call's own.
-/
import Derived.Test.YtckbhdokfkabfaaMp55
import Derived.Shelf.SortG.SortNone
set_option linter.unusedSimpArgs false
set_option linter.unusedVariables false
namespace Go.Proofs.Ytckbhdokfkabfaa
open Go.RowKit
set_option maxRecDepth 100000
set_option maxHeartbeats 4000000
def dOn (M : List Dty) (d : Int) : List Dty := M.filter fun x => x.d == d
def daysL (M : List Dty) : List Int := M.foldl (fun ds x => if ds.contains x.d then ds else ds ++ [x.d]) []
theorem daysL_snoc (l : List Dty) (x : Dty) : daysL (l ++ [x]) = if (daysL l).contains x.d then daysL l else daysL l ++ [x.d] := by unfold daysL; rw [List.foldl_append]; rfl
theorem dOn_snoc (l : List Dty) (x : Dty) (d : Int) : dOn (l ++ [x]) d = dOn l d ++ if x.d = d then [x] else [] := by
  unfold dOn
  rw [List.filter_append]
  congr 1
  by_cases h : x.d = d
  · rw [if_pos h]; simp [h]
  · rw [if_neg h]; simp [h]
theorem list_snoc {α : Type} {P : List α → Prop} (h0 : P []) (h1 : ∀ l x, P l → P (l ++ [x])) : ∀ l, P l := by
  intro l
  have key : ∀ (n : Nat) (l : List α), l.length = n → P l := by
    intro n
    induction n with
    | zero => intro l hl; rw [List.eq_nil_of_length_eq_zero hl]; exact h0
    | succ n ih =>
      intro l hl
      have hne : l ≠ [] := by intro e; subst e; simp at hl
      rw [← List.dropLast_concat_getLast hne]
      exact h1 _ _ (ih _ (by simp; omega))
  exact key _ l rfl
theorem days_mem (l : List Dty) : ∀ d, d ∈ daysL l ↔ dOn l d ≠ [] := by
  refine list_snoc (P := fun l => ∀ d, d ∈ daysL l ↔ dOn l d ≠ []) (fun d => by simp [daysL, dOn]) (fun l x ih d => ?_) l
  rw [daysL_snoc, dOn_snoc]
  by_cases hc : (daysL l).contains x.d = true
  · rw [if_pos hc]
    by_cases e : x.d = d
    · subst e
      have : x.d ∈ daysL l := by simpa using hc
      simp [this]
    · rw [if_neg e, List.append_nil]; exact ih d
  · rw [if_neg hc]
    by_cases e : x.d = d
    · subst e; simp
    · rw [if_neg e, List.append_nil, ← ih d]
      simp
      intro h
      exact (e h.symm).elim
theorem days_nodup (l : List Dty) : (daysL l).Nodup := by
  refine list_snoc (P := fun l => (daysL l).Nodup) (by simp [daysL]) (fun l x ih => ?_) l
  rw [daysL_snoc]
  by_cases hc : (daysL l).contains x.d = true
  · rw [if_pos hc]; exact ih
  · rw [if_neg hc]
    refine List.nodup_append.2 ⟨ih, by simp, fun a ha b hb e => hc ?_⟩
    simp at hb
    subst e
    subst hb
    simpa using ha
theorem days_len (l : List Dty) : (daysL l).length ≤ l.length := by
  refine list_snoc (P := fun l => (daysL l).length ≤ l.length) (by simp [daysL]) (fun l x ih => ?_) l
  rw [daysL_snoc]
  split
  · simp; omega
  · simp; omega
/-- Whether a day is new: nobody stands under it. -/
theorem day_new (l : List Dty) (d : Int) : (daysL l).contains d = decide ((dOn l d).length ≠ 0) := by
  have h := days_mem l d
  by_cases e : dOn l d = []
  · have : ¬ d ∈ daysL l := fun x => (h.1 x) e
    simp [this, e]
  · have h1 := h.2 e
    have h2 : (dOn l d).length ≠ 0 := fun x => e (List.eq_nil_of_length_eq_zero x)
    simp [h1, h2]
theorem own_farV {bs : List Nat} {w w' : World} {base e size n : Nat} {v : Value} {xs : List Value} (h : w.ownsRow base e size v n xs) (hf : Far bs w w') (hne : ∀ b, v.ownBlock = some b → b ∉ bs) : w'.ownsRow base e size v n xs := by
  refine ⟨h.1, ?_⟩
  rcases h.2 with h2 | ⟨g, cap, cur, hv, hb, hh, hr⟩
  · exact .inl h2
  · exact .inr ⟨g, cap, cur, hv, hb, by rw [hf.block g (Array.getElem?_eq_some_iff.1 hh).1 (hne g (by rw [hv]; rfl))]; exact hh, hr⟩
/-- The map g says of each day: a row of the call's own with its matches. -/
structure DyR (B g : Nat) (F : Int → Value) (l : List Dty) (w : World) : Prop where
  map : ∃ n, n ≤ l.length ∧ MpV w 2 g n (.slice none 0 0) F
  row : ∀ d, OwnL dtE 4 29 B w (F d) (dOn l d)
  dis : ∀ d d' b, d ≠ d' → (F d).ownBlock = some b → (F d').ownBlock ≠ some b
  ge : B ≤ g
theorem DyR.lt {B g : Nat} {F : Int → Value} {l : List Dty} {w : World} (h : DyR B g F l w) : g < w.heap.size := by obtain ⟨n, _, hm⟩ := h.map; exact hm.lt
theorem DyR.gne {B g : Nat} {F : Int → Value} {l : List Dty} {w : World} (h : DyR B g F l w) : ∀ d b, (F d).ownBlock = some b → b ≠ g := by
  intro d b hb
  obtain ⟨n, _, hm⟩ := h.map
  obtain ⟨A, c, e⟩ := own_form (h.row d)
  have hr := h.row d
  rw [e] at hb hr
  exact hm.neOwn hr b (adB_own hb)
theorem DyR.far {B g : Nat} {F : Int → Value} {l : List Dty} {w w' : World} {bs : List Nat} (h : DyR B g F l w) (hf : Far bs w w') (hg : g ∉ bs) (hn : ∀ d b, (F d).ownBlock = some b → b ∉ bs) : DyR B g F l w' := by
  obtain ⟨n, hn1, hm⟩ := h.map
  exact ⟨⟨n, hn1, hm.far hf hg⟩, fun d => own_farV (h.row d) hf (hn d), h.dis, h.ge⟩
theorem DyR.to {B g : Nat} {F : Int → Value} {l : List Dty} {w w' : World} (h : DyR B g F l w) (hb : Below w.heap.size w w') : DyR B g F l w' := h.far (Far.of (bs := []) hb) (by simp) (fun d b _ => by simp)
theorem DyR.rd {B g : Nat} {F : Int → Value} {l : List Dty} {w : World} (h : DyR B g F l w) (d : Int) : ∃ A c, F d = .slice A (dOn l d).length c ∧ Rd dtE 4 w w.heap.size A (dOn l d) := by
  obtain ⟨A, c, e, hr, _⟩ := OwnL.rd dtE_len (h.row d)
  exact ⟨A, c, e, hr⟩
theorem DyR.made {B : Nat} {w : World} (hB : B ≤ w.heap.size) : DyR B w.heap.size (fun _ => .slice none 0 0) [] (w.alloc (.map #[] 0)) :=
  ⟨⟨0, Nat.le_refl _, MpV.made w _ _⟩, fun d => World.ownsRow_nil _ _ _ _, (fun d d' b _ e => by cases e), hB⟩
theorem DyR.next {B g g8 cap : Nat} {F : Int → Value} {l : List Dty} {w w1 w2 w3 : World} {x : Dty} {A : Option Addr} {c n : Nat} (h : DyR B g F l w) (hb : Below w.heap.size w w1) (hF : F x.d = .slice A (dOn l x.d).length c)
    (ha : App w1 w2 B 29 4 (.slice A (dOn l x.d).length c) g8 cap (dOn l x.d).length 1 ((dOn l x.d).flatMap dtE) (dtE x))
    (hm3 : MpV w3 2 g n (.slice none 0 0) (putI F x.d (.slice (some ⟨g8, 0, none⟩) ((dOn l x.d).length + 1) cap))) (hg3 : w2.grownBy w3 (some g)) (hn : n ≤ l.length + 1) :
    DyR B g (putI F x.d (.slice (some ⟨g8, 0, none⟩) ((dOn l x.d).length + 1) cap)) (l ++ [x]) w3 := by
  have h1 := h.to hb
  have hs1 := hb.size
  have hfar2 : Far (adB A) w1 w2 := Far.grown ha.grown (fun b hb => adB_own hb)
  have hfar3 : Far [g] w2 w3 := Far.grown hg3 (fun b hb => by injection hb with hb; simp [hb])
  have hgA : ∀ b ∈ adB A, (F x.d).ownBlock = some b := fun b hb => by
    rw [hF]
    cases A with
    | none => simp [adB] at hb
    | some a => simp [adB] at hb; subst hb; rfl
  have hg8 : g8 ∈ adB A ∨ w.heap.size ≤ g8 := by
    rcases ha.at_ with e | e
    · exact Or.inl (adB_own e)
    · exact Or.inr (by omega)
  have hg8g : g8 ≠ g := by
    rcases hg8 with e | e
    · exact h.gne x.d g8 (hgA g8 e)
    · have := h.lt; omega
  refine ⟨⟨n, by simpa using hn, hm3⟩, fun d => ?_, fun d d' b hne hd hd' => ?_, h.ge⟩
  · rw [dOn_snoc]
    by_cases e : d = x.d
    · subst e
      rw [if_pos rfl]
      have ho : OwnL dtE 4 29 B w2 (.slice (some ⟨g8, 0, none⟩) ((dOn l x.d).length + 1) cap) (dOn l x.d ++ [x]) := ha.one rfl
      have hv : putI F x.d (.slice (some ⟨g8, 0, none⟩) ((dOn l x.d).length + 1) cap) x.d = .slice (some ⟨g8, 0, none⟩) ((dOn l x.d).length + 1) cap := by unfold putI; rw [if_pos rfl]
      rw [hv]
      exact own_farV ho hfar3 (fun b hb => by have hb' : g8 = b := Option.some.inj hb; simp; omega)
    · rw [if_neg (fun x => e x.symm), List.append_nil]
      have hv : putI F x.d (.slice (some ⟨g8, 0, none⟩) ((dOn l x.d).length + 1) cap) d = F d := by unfold putI; rw [if_neg e]
      rw [hv]
      refine own_farV (own_farV (h1.row d) hfar2 (fun b hb hx => h.dis d x.d b e hb (hgA b hx))) hfar3 (fun b hb => by simp; exact h.gne d b hb)
  · unfold putI at hd hd'
    by_cases e : d = x.d
    · rw [if_pos e] at hd
      injection hd with hd
      have e' : ¬ d' = x.d := fun k => hne (e.trans k.symm)
      rw [if_neg e'] at hd'
      have hd : g8 = b := hd
      subst hd
      rcases hg8 with k | k
      · exact h.dis x.d d' g8 (fun q => e' q.symm) (hgA g8 k) hd'
      · obtain ⟨A', c', e2⟩ := own_form (h.row d')
        have hr := h.row d'
        rw [e2] at hr hd'
        have := (own_in hr g8 (adB_own hd')).2
        omega
    · rw [if_neg e] at hd
      by_cases e' : d' = x.d
      · rw [if_pos e'] at hd'
        injection hd' with hd'
        have hd' : g8 = b := hd'
        subst hd'
        rcases hg8 with k | k
        · exact h.dis d x.d g8 e hd (hgA g8 k)
        · obtain ⟨A', c', e2⟩ := own_form (h.row d)
          have hr := h.row d
          rw [e2] at hr hd
          have := (own_in hr g8 (adB_own hd)).2
          omega
      · rw [if_neg e'] at hd'
        exact h.dis d d' b hne hd hd'
theorem grown_refl (w : World) (r : Option Nat) : w.grownBy w r := ⟨rfl, rfl, rfl, Nat.le_refl _, fun _ _ _ => rfl⟩
theorem sort_any (w : World) (base : Nat) (A : Option Addr) (cap : Nat) (zs : List Int) (h : OwnL iE 1 2 base w (.slice A zs.length cap) zs) (hl : zs.length ≤ 400) :
    Calls Try.prog 31 #[.slice A zs.length cap] w fun e w' => e = .returned (.tuple #[]) ∧ OwnL iE 1 2 base w' (.slice A zs.length cap) (sortL zs) ∧ Far (adB A) w w' := by
  rcases h.2 with ⟨hv, hn⟩ | ⟨g, cap', cur, hv, _⟩
  · have h0 : zs = [] := List.eq_nil_of_length_eq_zero hn
    subst h0
    injection hv with e1 _ e3
    subst e1 e3
    refine (AnyG.slices_Sort_int_none Try.laysSort none 0 w).mono ?_
    rintro e w' ⟨rfl, rfl⟩
    refine ⟨rfl, ?_, Far.refl _ _⟩
    rw [show sortL [] = [] from by unfold sortL; simp]
    exact World.ownsRow_nil _ _ _ _
  · injection hv with e1 _ e3
    subst e1 e3
    refine (sort_o w base g cap zs h hl).mono ?_
    rintro e w' ⟨rfl, ho, hg⟩
    exact ⟨rfl, ho, Far.grown hg (fun b hb => by injection hb with hb; simp [adB, hb])⟩
end Go.Proofs.Ytckbhdokfkabfaa
