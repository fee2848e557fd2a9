/-
  Chapter 55: a cell of a row of a matching is set; the steps of choose in plain.
-/
import Derived.Test.YtckbhdokfkabfaaCpy55
set_option linter.unusedSimpArgs false
set_option linter.unusedVariables false
namespace Go.Proofs.Ytckbhdokfkabfaa
open Go.RowKit
set_option maxRecDepth 100000
set_option maxHeartbeats 4000000
theorem rw_dis : ∀ (rows : List Rw), (rwB rows).Nodup → ∀ (i j : Nat) (ri rj : Rw), i ≠ j → rows[i]? = some ri → rows[j]? = some rj → ∀ b ∈ adB ri.a, b ∉ adB rj.a := by
  intro rows
  induction rows with
  | nil => intro _ i j ri rj _ h; simp at h
  | cons a rows ih =>
    intro hd i j ri rj hij hi hj b hb e
    have hd' : (adB a.a ++ rwB rows).Nodup := hd
    obtain ⟨h1, h2, h3⟩ := List.nodup_append.1 hd'
    cases i with
    | zero =>
      cases j with
      | zero => exact hij rfl
      | succ j =>
        simp at hi hj
        subst hi
        exact h3 b hb b (List.mem_flatMap.2 ⟨rj, List.mem_of_getElem? hj, e⟩) rfl
    | succ i =>
      cases j with
      | zero =>
        simp at hi hj
        subst hj
        exact h3 b e b (List.mem_flatMap.2 ⟨ri, List.mem_of_getElem? hi, hb⟩) rfl
      | succ j =>
        simp at hi hj
        exact ih h2 i j ri rj (by omega) hi hj b hb e
theorem flat_same {α : Type} {enc : α → List Value} (l : List α) (m : Nat) (r r' : α) (h : l[m]? = some r) (he : enc r' = enc r) : (l.set m r').flatMap enc = l.flatMap enc := by
  induction l generalizing m with
  | nil => simp
  | cons a l ih =>
    cases m with
    | zero => simp at h; subst h; simp [he]
    | succ m => simp at h; simp [ih m h]
theorem rwB_set (rows : List Rw) (m : Nat) (r r' : Rw) (h : rows[m]? = some r) (he : r'.a = r.a) : rwB (rows.set m r') = rwB rows := by
  unfold rwB
  induction rows generalizing m with
  | nil => simp
  | cons a l ih =>
    cases m with
    | zero => simp at h; subst h; simp [he]
    | succ m => simp at h; simp [ih m h]
theorem MatS.setRow {B : Nat} {x : Mx} {rows : List Rw} {need : List Nat} {us : List Int} {w : World} {m g i : Nat} {r : Rw} (h : MatS B x rows need us w) (hm : rows[m]? = some r) (hg : r.a = some ⟨g, 0, none⟩) (b : Bool) :
    MatS B x (rows.set m ⟨r.a, r.c, r.r.set i b⟩) need us (w.setCell ⟨g, i, none⟩ (.bool b)) := by
  have hF := Far.cell w g i (.bool b)
  have hgr : g ∈ rwB rows := List.mem_flatMap.2 ⟨r, List.mem_of_getElem? hm, by rw [hg]; simp [adB]⟩
  have hd := h.nd
  unfold Mx.bs at hd
  rw [List.nodup_cons] at hd
  obtain ⟨d0, d1⟩ := hd
  have d2 := nd_app d1
  have d3 := (List.nodup_append.1 d1).2.1
  have d4 := nd_app d3
  have d5 := (List.nodup_append.1 d3).2.1
  have d6 := nd_app d5
  have d7 := (List.nodup_append.1 d5).2.1
  have hX : x.bX ≠ g := fun e => d0 (by simp only [List.mem_append]; rw [e]; exact Or.inr (Or.inr (Or.inr hgr)))
  have hR : ∀ y ∈ adB x.R, y ∉ [g] := fun y hy e => by
    simp at e; subst e
    exact d2 y hy (by simp only [List.mem_append]; exact Or.inr (Or.inr hgr))
  have hN : ∀ y ∈ adB x.N, y ∉ [g] := fun y hy e => by
    simp at e; subst e
    exact d4 y hy (by simp only [List.mem_append]; exact Or.inr hgr)
  have hU : ∀ y ∈ adB x.U, y ∉ [g] := fun y hy e => by
    simp at e; subst e
    exact d6 y hy hgr
  refine ⟨h.blk.far hF (by simpa using hX), h.ge, ?_, fun r' hr' => ?_, own_far h.hneed hF hN, own_far h.hused hF hU, ?_, by rw [List.length_set]; exact h.lr, h.ln, h.lu⟩
  · have ho := own_far h.outer hF hR
    unfold OwnL
    rw [flat_same rows m r ⟨r.a, r.c, r.r.set i b⟩ hm rfl, List.length_set]
    exact ho
  · obtain ⟨j, hj, he⟩ := List.getElem_of_mem hr'
    have hj2 : (rows.set m ⟨r.a, r.c, r.r.set i b⟩)[j]? = some r' := by rw [List.getElem?_eq_getElem hj, he]
    by_cases e : j = m
    · subst e
      rw [List.getElem?_set_self (by simpa using hj)] at hj2
      injection hj2 with hj2
      subst hj2
      obtain ⟨h1, h2⟩ := h.row r (List.mem_of_getElem? hm)
      refine ⟨?_, by simpa using h2⟩
      dsimp only
      rw [hg] at h1 ⊢
      exact own1_set boE_len h1 rfl
    · rw [List.getElem?_set_ne (fun x => e x.symm)] at hj2
      obtain ⟨h1, h2⟩ := h.row r' (List.mem_of_getElem? hj2)
      refine ⟨own_far h1 hF (fun y hy e2 => ?_), h2⟩
      simp at e2
      subst e2
      exact rw_dis rows d7 j m r' r e hj2 hm y hy (by rw [hg]; simp [adB])
  · have : x.bs (rows.set m ⟨r.a, r.c, r.r.set i b⟩) = x.bs rows := by unfold Mx.bs; rw [rwB_set rows m r ⟨r.a, r.c, r.r.set i b⟩ hm rfl]
    rw [this]
    exact h.nd
theorem mayR_set (rows : List Rw) (m : Nat) (r : Rw) : mayR (rows.set m r) = (mayR rows).set m r.r := by unfold mayR; rw [List.map_set]
/-! choose, step by step -/
def stK (may : List (List Bool)) (need : List Nat) (us : List Int) (n m : Nat) : Nat → ChS
  | 0 => ⟨0, -1, need, us⟩
  | k + 1 => chS may n m (stK may need us n m k)
theorem choose_st (may : List (List Bool)) (need : List Nat) (us : List Int) (n m : Nat) : chooseF may need us n m = (((stK may need us n m 1).p, (stK may need us n m 2).p), (stK may need us n m 2).need, (stK may need us n m 2).us) := rfl
structure StOk (nm n m k : Nat) (s : ChS) : Prop where
  fresh : Fresh s.us
  ul : s.us.length = n
  nl : s.need.length = nm
  lo : -1 ≤ s.least
  hi : s.least < n
  n1 : 2 ≤ s.need[m]?.getD 0 + k
  n2 : ∀ j ∈ s.need, j ≤ 2
theorem StOk.next {may : List (List Bool)} {nm n m k : Nat} {s : ChS} (h : StOk nm n m k s) (hm : m < nm) : StOk nm n m (k + 1) (chS may n m s) := by
  unfold chS
  have hs := chF_spec (may := may) (need := s.need) (us := s.us) (n := n) (m := m) (n - (s.least + 1).toNat) (s.least + 1).toNat
  cases hc : chF may s.need s.us n m (n - (s.least + 1).toNat) (s.least + 1).toNat with
  | none => exact ⟨h.fresh, h.ul, h.nl, h.lo, h.hi, by have := h.n1; show 2 ≤ s.need[m]?.getD 0 + (k + 1); omega, h.n2⟩
  | some u =>
    obtain ⟨a1, a2, _⟩ := hs.1 u hc
    have h1 := h.lo
    have h2 := h.hi
    refine ⟨fresh_bar h.fresh u, by simpa using h.ul, by simpa using h.nl, by show -1 ≤ (u : Int); omega, by show (u : Int) < n; omega, ?_, fun j hj => ?_⟩
    · show 2 ≤ (s.need.set m (s.need[m]?.getD 0 - 1))[m]?.getD 0 + (k + 1)
      rw [nG_set (by rw [h.nl]; exact hm), if_pos rfl]
      have := h.n1
      omega
    · rcases List.mem_or_eq_of_mem_set hj with e | e
      · exact h.n2 j e
      · have h3 : s.need[m]?.getD 0 ≤ 2 := by
          rw [List.getElem?_eq_getElem (by rw [h.nl]; exact hm)]
          exact h.n2 _ (List.getElem_mem _)
        omega
end Go.Proofs.Ytckbhdokfkabfaa
