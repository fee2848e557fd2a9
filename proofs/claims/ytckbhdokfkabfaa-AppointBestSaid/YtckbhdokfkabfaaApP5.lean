/-
  Chapter 55, plain: all pairs of a day; the least ones.
-/
import Derived.Test.YtckbhdokfkabfaaApP4
set_option linter.unusedSimpArgs false
set_option linter.unusedVariables false
namespace Go.Proofs.Ytckbhdokfkabfaa
def dayF (may : List (List Bool)) (n : Nat) : Nat → Nat → List Nat → List Int → List (Int × Int)
  | 0, _, _, _ => []
  | k + 1, i, need, us => (chooseF may need us n i).1 :: dayF may n k (i + 1) (chooseF may need us n i).2.1 (chooseF may need us n i).2.2
def PairsOk (may : List (List Bool)) : List Int → Nat → List (Nat × Nat) → Prop
  | _, _, [] => True
  | us, i, p :: Q => PairOk may us i p.1 p.2 ∧ PairsOk may (bar2 us p.1 p.2) (i + 1) Q
/-- Two are wanted for each match from i on, none for those before. -/
structure NeedAt (nm i : Nat) (need : List Nat) : Prop where
  len : need.length = nm
  at_ : ∀ j, j < nm → need[j]?.getD 0 = if j < i then 0 else 2
theorem NeedAt.start (nm : Nat) : NeedAt nm 0 (List.replicate nm 2) := ⟨by simp, fun j hj => by rw [List.getElem?_replicate, if_pos hj]; rfl⟩
theorem NeedAt.next {nm i : Nat} {need : List Nat} (h : NeedAt nm i need) (hi : i < nm) : NeedAt nm (i + 1) (need.set i 0) := by
  refine ⟨by simpa using h.len, fun j hj => ?_⟩
  rw [nG_set (by rw [h.len]; exact hi), h.at_ j hj]
  by_cases e : j = i
  · subst e; rw [if_pos rfl, if_pos (by omega)]
  · rw [if_neg e]
    by_cases e2 : j < i
    · rw [if_pos e2, if_pos (by omega)]
    · rw [if_neg e2, if_neg (by omega)]
theorem pair_feas {may : List (List Bool)} {nm m a b : Nat} {need : List Nat} {us : List Int} (hm : m < nm) (hnd : need.length = nm) (h2 : need[m]?.getD 0 = 2) (hp : PairOk may us m a b) (h : Feas may nm (need.set m 0) (bar2 us a b)) : Feas may nm need us := by
  obtain ⟨g, hg⟩ := h
  have hal := uG_lt (us := us) (u := a) (by rw [hp.fa]; decide)
  have hbl := uG_lt (us := us) (u := b) (by rw [hp.fb]; decide)
  have hgl : g.length = us.length := by rw [hg.len, bar2_len]
  have hab := hp.lt
  have hbar : ∀ j, uG (bar2 us a b) j = if j = b then -2 else if j = a then -2 else uG us j := fun j => by
    unfold bar2
    rw [uG_set (us := us.set a (-2)) (u := b) (by simpa using hbl)]
    split
    · rfl
    · rw [uG_set hal]
  have hga : uG g a = -2 := hg.bar a (by rw [hbar, if_neg (by omega), if_pos rfl])
  have hgb : uG g b = -2 := hg.bar b (by rw [hbar, if_pos rfl])
  have hg2 : ∀ j, uG ((g.set a m).set b m) j = if j = b then (m : Int) else if j = a then (m : Int) else uG g j := fun j => by
    rw [uG_set (us := g.set a m) (u := b) (by simp; omega)]
    split
    · rfl
    · rw [uG_set (us := g) (u := a) (by omega)]
  refine ⟨(g.set a m).set b m, by simpa using hgl, fun j hj => ?_, fun j => ?_, fun x hx => ?_⟩
  · have h1 : j ≠ b := fun e => by subst e; rw [hp.fb] at hj; cases hj
    have h3 : j ≠ a := fun e => by subst e; rw [hp.fa] at hj; cases hj
    rw [hg2, if_neg h1, if_neg h3]
    exact hg.bar j (by rw [hbar, if_neg h1, if_neg h3]; exact hj)
  · rw [hg2]
    by_cases h1 : j = b
    · subst h1; rw [if_pos rfl]; exact Or.inr (Or.inr ⟨m, hm, rfl, hp.mb⟩)
    · rw [if_neg h1]
      by_cases h3 : j = a
      · subst h3; rw [if_pos rfl]; exact Or.inr (Or.inr ⟨m, hm, rfl, hp.ma⟩)
      · rw [if_neg h3]; exact hg.val j
  · have k1 := cntU_set (us := g) (u := a) (by omega) (m : Int) x
    have k2 := cntU_set (us := g.set a m) (u := b) (by simp; omega) (m : Int) x
    rw [uG_set (us := g) (u := a) (by omega), if_neg (show ¬ b = a by omega), hgb] at k2
    rw [hga, hg.cnt x hx, nG_set (by omega)] at k1
    by_cases e : x = m
    · subst e
      rw [if_pos rfl, if_pos rfl, if_neg (show ¬ (-2 : Int) = (x : Int) by omega)] at k1
      rw [if_pos rfl, if_neg (show ¬ (-2 : Int) = (x : Int) by omega)] at k2
      rw [h2]; omega
    · rw [if_neg (show ¬ (-2 : Int) = (x : Int) by omega), if_neg e, if_neg (show ¬ (m : Int) = (x : Int) by omega)] at k1
      rw [if_neg (show ¬ (-2 : Int) = (x : Int) by omega), if_neg (show ¬ (m : Int) = (x : Int) by omega)] at k2
      omega
/-- Pairs for all matches from i on: the rest can be filled. -/
theorem ext_feas {may : List (List Bool)} {nm : Nat} : ∀ (Q : List (Nat × Nat)) (i : Nat) (us : List Int) (need : List Nat), Fresh us → NeedAt nm i need → i + Q.length = nm → PairsOk may us i Q → Feas may nm need us := by
  intro Q
  induction Q with
  | nil =>
    intro i us need hf hn hi _
    simp at hi
    refine ⟨us, rfl, fun _ h => h, hf.val, fun x hx => ?_⟩
    rw [hf.cnt x, hn.at_ x hx, if_pos (by omega)]
  | cons p Q ih =>
    intro i us need hf hn hi hp
    simp at hi
    obtain ⟨h1, h2⟩ := hp
    have hin : i < nm := by omega
    exact pair_feas hin hn.len (by rw [hn.at_ i hin, if_neg (by omega)]) h1 (ih (i + 1) _ _ (bar2_fresh hf _ _) (hn.next hin) (by omega) h2)
def castP (p : Nat × Nat) : Int × Int := ((p.1 : Int), (p.2 : Int))
theorem day_spec {may : List (List Bool)} {nm : Nat} (hml : may.length = nm) : ∀ (k i : Nat) (need : List Nat) (us : List Int), i + k = nm → NeedAt nm i need → Fresh us → Feas may nm need us →
    ∃ P : List (Nat × Nat), dayF may us.length k i need us = P.map castP ∧ P.length = k ∧ PairsOk may us i P ∧ (∀ p ∈ P, p.1 < us.length ∧ p.2 < us.length) ∧
      ∀ Q, Q.length = k → PairsOk may us i Q → ∀ (j : Nat) (p q : Nat × Nat), P.take j = Q.take j → P[j]? = some p → Q[j]? = some q → p.1 < q.1 ∨ p.1 = q.1 ∧ p.2 ≤ q.2 := by
  intro k
  induction k with
  | zero => intro i need us _ _ _ _; exact ⟨[], rfl, rfl, trivial, (fun p hp => by simp at hp), (fun Q _ _ j p q _ hp => by simp at hp)⟩
  | succ k ih =>
    intro i need us hi hn hf hfe
    have hin : i < nm := by omega
    obtain ⟨a, b, hc, hp, hbl, hfe2, hlex⟩ := choose_spec hf hn.len hin (by omega) (by rw [hn.at_ i hin, if_neg (by omega)]) hfe
    have hlt := hp.lt
    have hi2 := ih (i + 1) (need.set i 0) (bar2 us a b) (by omega) (hn.next hin) (bar2_fresh hf a b) hfe2
    rw [bar2_len] at hi2
    obtain ⟨P, e1, e2, e3, e4, e5⟩ := hi2
    refine ⟨(a, b) :: P, ?_, by simp [e2], ⟨hp, e3⟩, ?_, fun Q hQ hQp j p q ht hpj hqj => ?_⟩
    · unfold dayF
      rw [hc]
      dsimp only
      rw [e1]
      rfl
    · intro p hpp
      rcases List.mem_cons.1 hpp with e | e
      · subst e; exact ⟨by show a < _; omega, hbl⟩
      · exact e4 p e
    · match Q, hQ, hQp with
      | q0 :: Q, hQ, hQp =>
        obtain ⟨hq0, hqs⟩ := hQp
        simp at hQ
        cases j with
        | zero =>
          simp at hpj hqj
          subst hpj; subst hqj
          have hf3 := ext_feas Q (i + 1) (bar2 us q0.1 q0.2) (need.set i 0) (bar2_fresh hf _ _) (hn.next hin) (by omega) hqs
          exact hlex q0.1 q0.2 hq0 hf3
        | succ j =>
          simp at ht hpj hqj
          obtain ⟨h1, h2⟩ := ht
          subst h1
          exact e5 Q hQ hqs j p q h2 hpj hqj
end Go.Proofs.Ytckbhdokfkabfaa
