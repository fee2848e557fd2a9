/-
  Chapter 55, plain: the least pair of each match of a day.
-/
import Derived.Test.YtckbhdokfkabfaaApP3
set_option linter.unusedSimpArgs false
set_option linter.unusedVariables false
namespace Go.Proofs.Ytckbhdokfkabfaa
def cutR (r : List Bool) : Nat → List Bool
  | 0 => r
  | u + 1 => (cutR r u).set u false
theorem cutR_at (r : List Bool) (u j : Nat) : bG (cutR r u) j = if j < u then false else bG r j := by
  induction u with
  | zero => rw [if_neg (by omega)]; rfl
  | succ u ih =>
    by_cases h : u < (cutR r u).length
    · rw [show cutR r (u + 1) = (cutR r u).set u false from rfl, bG_set h, ih]
      by_cases e : j = u
      · subst e; rw [if_pos rfl, if_pos (by omega)]
      · rw [if_neg e]
        by_cases e2 : j < u
        · rw [if_pos e2, if_pos (by omega)]
        · rw [if_neg e2, if_neg (by omega)]
    · rw [show cutR r (u + 1) = (cutR r u).set u false from rfl, List.set_eq_of_length_le (by omega), ih]
      by_cases e : j = u
      · subst e
        rw [if_neg (by omega), if_pos (by omega)]
        have h1 := ih
        have : bG (cutR r j) j = false := by unfold bG; rw [List.getElem?_eq_none (by omega)]; rfl
        rw [h1, if_neg (by omega)] at this
        exact this
      · by_cases e2 : j < u
        · rw [if_pos e2, if_pos (by omega)]
        · rw [if_neg e2, if_neg (by omega)]
theorem cutR_len (r : List Bool) (u : Nat) : (cutR r u).length = r.length := by
  induction u with
  | zero => rfl
  | succ u ih => show ((cutR r u).set u false).length = _; rw [List.length_set, ih]
/-- Whether the rest can be filled when u is given to match m and the other one of m comes later. -/
def tryF (may : List (List Bool)) (need : List Nat) (us : List Int) (n m u : Nat) : List Nat :=
  (fillF (may.set m (cutR (rG may m) u)) n (need.set m (need[m]?.getD 0 - 1)) 0 (us.set u (-2)) []).1
def chF (may : List (List Bool)) (need : List Nat) (us : List Int) (n m : Nat) : Nat → Nat → Option Nat
  | 0, _ => none
  | k + 1, u => if bG (rG may m) u = false ∨ uG us u = -2 then chF may need us n m k (u + 1)
    else if tryF may need us n m u = [] then some u else chF may need us n m k (u + 1)
structure ChS where
  p : Int
  least : Int
  need : List Nat
  us : List Int
def chS (may : List (List Bool)) (n m : Nat) (s : ChS) : ChS :=
  match chF may s.need s.us n m (n - (s.least + 1).toNat) (s.least + 1).toNat with
  | some u => ⟨u, u, s.need.set m (s.need[m]?.getD 0 - 1), s.us.set u (-2)⟩
  | none => ⟨0, s.least, s.need, s.us⟩
def chooseF (may : List (List Bool)) (need : List Nat) (us : List Int) (n m : Nat) : (Int × Int) × List Nat × List Int :=
  let a := chS may n m ⟨0, -1, need, us⟩
  let b := chS may n m a
  ((a.p, b.p), b.need, b.us)
def Feas (may : List (List Bool)) (nm : Nat) (need : List Nat) (us : List Int) : Prop := ∃ g, Full may nm need us g
theorem nG_set {l : List Nat} {m : Nat} (h : m < l.length) (v j : Nat) : (l.set m v)[j]?.getD 0 = if j = m then v else l[j]?.getD 0 := by
  by_cases e : j = m
  · subst e; rw [if_pos rfl, List.getElem?_set_self h]; rfl
  · rw [if_neg e, List.getElem?_set_ne (fun x => e x.symm)]
theorem rG_set {may : List (List Bool)} {m : Nat} (h : m < may.length) (r : List Bool) (j : Nat) : rG (may.set m r) j = if j = m then r else rG may j := by
  unfold rG
  by_cases e : j = m
  · subst e; rw [if_pos rfl, List.getElem?_set_self h]; rfl
  · rw [if_neg e, List.getElem?_set_ne (fun x => e x.symm)]
theorem cnt_pos {g : List Int} {m : Nat} (h : 0 < cntU g m) : ∃ b, b < g.length ∧ uG g b = (m : Int) := by
  obtain ⟨b, hb, he⟩ := List.getElem_of_mem (List.count_pos_iff.1 h)
  exact ⟨b, hb, by unfold uG; rw [List.getElem?_eq_getElem hb, he]; rfl⟩
theorem cnt_none {g : List Int} {m : Nat} (h : cntU g m = 0) (b : Nat) : uG g b ≠ (m : Int) := fun e => by
  have hb := uG_lt (us := g) (u := b) (by omega)
  have : (m : Int) ∈ g := by
    have h1 : g[b]? = some (m : Int) := by rw [← e]; unfold uG; rw [List.getElem?_eq_getElem hb]; rfl
    exact List.mem_of_getElem? h1
  have := List.count_pos_iff.2 this
  unfold cntU at h; omega
/-- Where nobody is wanted for m, what m's row says does not matter. -/
theorem feas_row {may : List (List Bool)} {nm m : Nat} {need : List Nat} {us : List Int} (hml : m < may.length) (hm : m < nm) (h0 : need[m]?.getD 0 = 0) (r : List Bool) : Feas (may.set m r) nm need us ↔ Feas may nm need us := by
  have key : ∀ (A B : List (List Bool)), (∀ j, j ≠ m → rG A j = rG B j) → Feas A nm need us → Feas B nm need us := by
    rintro A B hAB ⟨g, hg⟩
    refine ⟨g, hg.len, hg.bar, fun u => ?_, hg.cnt⟩
    rcases hg.val u with e | e | ⟨x, hx, he, hb⟩
    · exact Or.inl e
    · exact Or.inr (Or.inl e)
    · refine Or.inr (Or.inr ⟨x, hx, he, ?_⟩)
      have hxm : x ≠ m := fun e => by
        subst e
        exact cnt_none (by rw [hg.cnt x hx, h0]) u he
      rw [← hAB x hxm]; exact hb
  constructor
  · exact key _ _ (fun j hj => by rw [rG_set hml, if_neg hj])
  · exact key _ _ (fun j hj => by rw [rG_set hml, if_neg hj])
/-- One more umpire for m: taken back and given. -/
theorem feas_take {may : List (List Bool)} {nm m k u : Nat} {need : List Nat} {us : List Int} (hm : m < nm) (hnd : need.length = nm) (hk : need[m]?.getD 0 = k + 1) (hml : m < may.length) (hav : uG us u = -2) :
    Feas (may.set m (cutR (rG may m) u)) nm need us ↔ ∃ b, u < b ∧ bG (rG may m) b = true ∧ uG us b ≠ -2 ∧ Feas (may.set m (cutR (rG may m) u)) nm (need.set m k) (us.set b (-2)) := by
  constructor
  · rintro ⟨g, hg⟩
    obtain ⟨b, hbl, hb⟩ := cnt_pos (g := g) (m := m) (by rw [hg.cnt m hm, hk]; omega)
    have hbm : bG (cutR (rG may m) u) b = true := by
      rcases hg.val b with e | e | ⟨x, hx, he, h⟩
      · omega
      · omega
      · have : x = m := by omega
        subst this
        rwa [rG_set hml, if_pos rfl] at h
    rw [cutR_at] at hbm
    have hub : u ≤ b := by
      by_cases e : b < u
      · rw [if_pos e] at hbm; cases hbm
      · omega
    rw [if_neg (by omega)] at hbm
    have hne : b ≠ u := fun e => by subst e; have := hg.bar b hav; omega
    have husb : uG us b ≠ -2 := fun e => by have := hg.bar b e; omega
    refine ⟨b, by omega, hbm, husb, g.set b (-2), by simpa using hg.len, fun j hj => ?_, fun j => ?_, fun x hx => ?_⟩
    · rw [uG_set hbl]
      rw [uG_set (uG_lt husb)] at hj
      split
      · rfl
      · rename_i e; rw [if_neg e] at hj; exact hg.bar j hj
    · rw [uG_set hbl]
      split
      · exact Or.inl rfl
      · exact hg.val j
    · have h1 := cntU_set hbl (-2) x
      rw [hb, hg.cnt x hx] at h1
      rw [nG_set (by omega)]
      by_cases e : x = m
      · subst e
        rw [if_pos rfl, if_neg (by omega), hk] at h1
        rw [if_pos rfl]; omega
      · rw [if_neg (by omega), if_neg (by omega)] at h1
        rw [if_neg e]; omega
  · rintro ⟨b, hub, hbm, husb, g, hg⟩
    have hbl : b < g.length := by rw [hg.len]; simpa using uG_lt husb
    have hgb : uG g b = -2 := hg.bar b (by rw [uG_set (uG_lt husb), if_pos rfl])
    refine ⟨g.set b m, by simpa using hg.len, fun j hj => ?_, fun j => ?_, fun x hx => ?_⟩
    · rw [uG_set hbl, if_neg (fun e : j = b => husb (by rw [← e]; exact hj))]
      exact hg.bar j (by rw [uG_set (uG_lt husb)]; split <;> simp_all)
    · rw [uG_set hbl]
      split
      · rename_i e; subst e
        refine Or.inr (Or.inr ⟨m, hm, rfl, ?_⟩)
        rw [rG_set hml, if_pos rfl, cutR_at, if_neg (by omega)]
        exact hbm
      · exact hg.val j
    · have h1 := cntU_set hbl (m : Int) x
      rw [hgb, hg.cnt x hx, nG_set (by omega)] at h1
      by_cases e : x = m
      · subst e
        rw [if_pos rfl, if_pos rfl, if_neg (by omega)] at h1
        rw [hk]; omega
      · rw [if_neg (by omega), if_neg (by omega), if_neg (by omega)] at h1
        omega
theorem fresh_bar {us : List Int} (h : Fresh us) (u : Nat) : Fresh (us.set u (-2)) := fun j => by
  by_cases hu : u < us.length
  · rw [uG_set hu]; split
    · exact Or.inl rfl
    · exact h j
  · rw [List.set_eq_of_length_le (by omega)]; exact h j
theorem try_iff {may : List (List Bool)} {nm n m u : Nat} {need : List Nat} {us : List Int} (hf : Fresh us) (hn : us.length ≤ n) (hnd : need.length = nm) :
    tryF may need us n m u = [] ↔ Feas (may.set m (cutR (rG may m) u)) nm (need.set m (need[m]?.getD 0 - 1)) (us.set u (-2)) :=
  fill_iff (by simpa using hn) (by simpa using hnd) (fresh_bar hf u)
/-- The first one from u on that passes. -/
theorem chF_spec {may : List (List Bool)} {need : List Nat} {us : List Int} {n m : Nat} : ∀ (k u : Nat), 
    (∀ r, chF may need us n m k u = some r → u ≤ r ∧ r < u + k ∧ bG (rG may m) r = true ∧ uG us r ≠ -2 ∧ tryF may need us n m r = [] ∧ ∀ z, u ≤ z → z < r → ¬ (bG (rG may m) z = true ∧ uG us z ≠ -2 ∧ tryF may need us n m z = [])) ∧
    (chF may need us n m k u = none → ∀ z, u ≤ z → z < u + k → ¬ (bG (rG may m) z = true ∧ uG us z ≠ -2 ∧ tryF may need us n m z = [])) := by
  intro k
  induction k with
  | zero => intro u; exact ⟨(fun r h => by cases h), fun _ z h1 h2 => by omega⟩
  | succ k ih =>
    intro u
    obtain ⟨i1, i2⟩ := ih (u + 1)
    unfold chF
    by_cases h1 : bG (rG may m) u = false ∨ uG us u = -2
    · rw [if_pos h1]
      have hu : ¬ (bG (rG may m) u = true ∧ uG us u ≠ -2 ∧ tryF may need us n m u = []) := fun h => by
        rcases h1 with e | e
        · rw [e] at h; cases h.1
        · exact h.2.1 e
      refine ⟨fun r hr => ?_, fun hn z hz1 hz2 => ?_⟩
      · obtain ⟨a1, a2, a3, a4, a5, a6⟩ := i1 r hr
        refine ⟨by omega, by omega, a3, a4, a5, fun z hz1 hz2 => ?_⟩
        by_cases e : z = u
        · subst e; exact hu
        · exact a6 z (by omega) hz2
      · by_cases e : z = u
        · subst e; exact hu
        · exact i2 hn z (by omega) (by omega)
    · rw [if_neg h1]
      by_cases h2 : tryF may need us n m u = []
      · rw [if_pos h2]
        refine ⟨fun r hr => ?_, fun h => by cases h⟩
        injection hr with hr
        subst hr
        exact ⟨Nat.le_refl _, by omega, by cases e : bG (rG may m) u <;> simp_all, fun e => h1 (Or.inr e), h2, fun z hz1 hz2 => by omega⟩
      · rw [if_neg h2]
        have hu : ¬ (bG (rG may m) u = true ∧ uG us u ≠ -2 ∧ tryF may need us n m u = []) := fun h => h2 h.2.2
        refine ⟨fun r hr => ?_, fun hn z hz1 hz2 => ?_⟩
        · obtain ⟨a1, a2, a3, a4, a5, a6⟩ := i1 r hr
          refine ⟨by omega, by omega, a3, a4, a5, fun z hz1 hz2 => ?_⟩
          by_cases e : z = u
          · subst e; exact hu
          · exact a6 z (by omega) hz2
        · by_cases e : z = u
          · subst e; exact hu
          · exact i2 hn z (by omega) (by omega)
/-- The pair (a, b) may stand in m. -/
structure PairOk (may : List (List Bool)) (us : List Int) (m a b : Nat) : Prop where
  lt : a < b
  ma : bG (rG may m) a = true
  mb : bG (rG may m) b = true
  fa : uG us a = -1
  fb : uG us b = -1
def bar2 (us : List Int) (a b : Nat) : List Int := (us.set a (-2)).set b (-2)
theorem bar2_fresh {us : List Int} (h : Fresh us) (a b : Nat) : Fresh (bar2 us a b) := fresh_bar (fresh_bar h a) b
theorem bar2_len (us : List Int) (a b : Nat) : (bar2 us a b).length = us.length := by unfold bar2; simp
theorem set_set (need : List Nat) (m v w : Nat) : (need.set m v).set m w = need.set m w := by simp
theorem set_self {need : List Nat} {m v : Nat} (h : need[m]? = some v) : need.set m v = need := by
  apply List.ext_getElem?
  intro i
  by_cases e : i = m
  · subst e
    rw [List.getElem?_set_self (List.getElem?_eq_some_iff.1 h).1, h]
  · rw [List.getElem?_set_ne (fun x => e x.symm)]
/-- What passes as first umpire: there is a second one behind. -/
theorem try_first {may : List (List Bool)} {nm n m a : Nat} {need : List Nat} {us : List Int} (hf : Fresh us) (hn : us.length ≤ n) (hnd : need.length = nm) (hm : m < nm) (hml : m < may.length) (h2 : need[m]?.getD 0 = 2) (hal : a < us.length) :
    tryF may need us n m a = [] ↔ ∃ b, a < b ∧ bG (rG may m) b = true ∧ uG us b ≠ -2 ∧ Feas may nm (need.set m 0) (bar2 us a b) := by
  rw [try_iff hf hn hnd, h2]
  have h1 : (need.set m (2 - 1))[m]?.getD 0 = 0 + 1 := by rw [nG_set (by omega), if_pos rfl]
  rw [feas_take hm (by simpa using hnd) h1 hml (by rw [uG_set hal, if_pos rfl])]
  constructor
  · rintro ⟨b, b1, b2, b3, b4⟩
    rw [set_set] at b4
    refine ⟨b, b1, b2, fun e => b3 (by rw [uG_set hal, if_neg (by omega)]; exact e), ?_⟩
    exact (feas_row hml hm (by rw [nG_set (by omega), if_pos rfl]) _).1 b4
  · rintro ⟨b, b1, b2, b3, b4⟩
    refine ⟨b, b1, b2, by rw [uG_set hal, if_neg (by omega)]; exact b3, ?_⟩
    rw [set_set]
    exact (feas_row hml hm (by rw [nG_set (by omega), if_pos rfl]) _).2 b4
theorem try_second {may : List (List Bool)} {nm n m b : Nat} {need : List Nat} {us : List Int} (hf : Fresh us) (hn : us.length ≤ n) (hnd : need.length = nm) (hm : m < nm) (hml : m < may.length) (h1 : need[m]?.getD 0 = 1) :
    tryF may need us n m b = [] ↔ Feas may nm (need.set m 0) (us.set b (-2)) := by
  rw [try_iff hf hn hnd, h1]
  exact feas_row hml hm (by rw [nG_set (by omega), if_pos rfl]) _
theorem choose_spec {may : List (List Bool)} {nm m : Nat} {need : List Nat} {us : List Int} (hf : Fresh us) (hnd : need.length = nm) (hm : m < nm) (hml : m < may.length) (h2 : need[m]?.getD 0 = 2) (hfe : Feas may nm need us) :
    ∃ a b : Nat, chooseF may need us us.length m = (((a : Int), (b : Int)), need.set m 0, bar2 us a b) ∧ PairOk may us m a b ∧ b < us.length ∧ Feas may nm (need.set m 0) (bar2 us a b) ∧
      ∀ a' b', PairOk may us m a' b' → Feas may nm (need.set m 0) (bar2 us a' b') → a < a' ∨ a = a' ∧ b ≤ b' := by
  have hone : ∀ {u}, uG us u ≠ -2 → uG us u = -1 := fun {u} h => (hf u).resolve_left h
  -- a first one that passes
  obtain ⟨a0, ha0m, ha0f, ha0t⟩ : ∃ a0, bG (rG may m) a0 = true ∧ uG us a0 ≠ -2 ∧ tryF may need us us.length m a0 = [] := by
    obtain ⟨g, hg⟩ := hfe
    have hin : ∀ b, uG g b = (m : Int) → b < us.length ∧ bG (rG may m) b = true ∧ uG us b ≠ -2 := fun b hb => by
      have hbm : bG (rG may m) b = true := by
        rcases hg.val b with e | e | ⟨x, hx, he, h⟩
        · omega
        · omega
        · have : x = m := by omega
          subst this; exact h
      have hne : uG us b ≠ -2 := fun e => by have := hg.bar b e; omega
      exact ⟨uG_lt hne, hbm, hne⟩
    obtain ⟨b1, hb1l, hb1⟩ := cnt_pos (g := g) (m := m) (by rw [hg.cnt m hm, h2]; omega)
    have h3 := cntU_set hb1l (-2) m
    rw [hb1, if_pos rfl, if_neg (by omega), hg.cnt m hm, h2] at h3
    obtain ⟨b2, hb2l, hb2⟩ := cnt_pos (g := g.set b1 (-2)) (m := m) (by omega)
    rw [uG_set hb1l] at hb2
    have hne : b2 ≠ b1 := fun e => by rw [if_pos e] at hb2; omega
    rw [if_neg hne] at hb2
    have key : ∀ x y, x < y → uG g x = (m : Int) → uG g y = (m : Int) → tryF may need us us.length m x = [] := by
      intro x y hxy hx hy
      obtain ⟨x1, x2, x3⟩ := hin x hx
      obtain ⟨y1, y2, y3⟩ := hin y hy
      have hgl := hg.len
      refine (try_first hf (Nat.le_refl _) hnd hm hml h2 x1).2 ⟨y, hxy, y2, y3, (g.set x (-2)).set y (-2), by unfold bar2; simpa using hg.len, fun j hj => ?_, fun j => ?_, fun z hz => ?_⟩
      · unfold bar2 at hj
        rw [uG_set (by simpa using y1), uG_set x1] at hj
        rw [uG_set (us := g.set x (-2)) (u := y) (by simp; omega), uG_set (us := g) (u := x) (by omega)]
        split
        · rfl
        · rename_i e; rw [if_neg e] at hj
          split
          · rfl
          · rename_i e2; rw [if_neg e2] at hj; exact hg.bar j hj
      · rw [uG_set (us := g.set x (-2)) (u := y) (by simp; omega), uG_set (us := g) (u := x) (by omega)]
        split
        · exact Or.inl rfl
        · split
          · exact Or.inl rfl
          · exact hg.val j
      · have k1 := cntU_set (us := g) (u := x) (by omega) (-2) z
        have k2 := cntU_set (us := g.set x (-2)) (u := y) (by simp; omega) (-2) z
        rw [uG_set (us := g) (u := x) (by omega), if_neg (show ¬ y = x by omega), hy] at k2
        rw [hx, hg.cnt z hz] at k1
        rw [nG_set (by omega)]
        by_cases e : z = m
        · subst e
          rw [if_pos rfl, if_neg (by omega)] at k1 k2
          rw [if_pos rfl]; omega
        · rw [if_neg (by omega), if_neg (by omega)] at k1 k2
          rw [if_neg e]; omega
    by_cases hlt : b1 < b2
    · exact ⟨b1, (hin b1 hb1).2.1, (hin b1 hb1).2.2, key b1 b2 hlt hb1 hb2⟩
    · exact ⟨b2, (hin b2 hb2).2.1, (hin b2 hb2).2.2, key b2 b1 (by omega) hb2 hb1⟩
  obtain ⟨s1, s2⟩ := chF_spec (may := may) (need := need) (us := us) (n := us.length) (m := m) us.length 0
  have hcf : ∃ a, chF may need us us.length m us.length 0 = some a := by
    cases h : chF may need us us.length m us.length 0 with
    | some a => exact ⟨a, rfl⟩
    | none => exact (s2 h a0 (Nat.zero_le _) (by have := uG_lt ha0f; omega) ⟨ha0m, ha0f, ha0t⟩).elim
  obtain ⟨a, ha⟩ := hcf
  obtain ⟨_, _, ham, haf, hat, hal⟩ := s1 a ha
  have haln := uG_lt haf
  obtain ⟨b0, hb01, hb02, hb03, hb04⟩ := (try_first hf (Nat.le_refl _) hnd hm hml h2 haln).1 hat
  have h21 : (need.set m 1)[m]?.getD 0 = 1 := by rw [nG_set (by omega), if_pos rfl]
  have ht2 : ∀ b, a < b → (tryF may (need.set m 1) (us.set a (-2)) us.length m b = [] ↔ Feas may nm (need.set m 0) (bar2 us a b)) := fun b hb => by
    rw [try_second (fresh_bar hf a) (by simp) (by simpa using hnd) hm hml h21, set_set]
    rfl
  obtain ⟨t1, t2⟩ := chF_spec (may := may) (need := need.set m 1) (us := us.set a (-2)) (n := us.length) (m := m) (us.length - (a + 1)) (a + 1)
  have hg2 : ∀ b, a < b → uG (us.set a (-2)) b = uG us b := fun b hb => by rw [uG_set haln, if_neg (by omega)]
  have hcb : ∃ b, chF may (need.set m 1) (us.set a (-2)) us.length m (us.length - (a + 1)) (a + 1) = some b := by
    cases h : chF may (need.set m 1) (us.set a (-2)) us.length m (us.length - (a + 1)) (a + 1) with
    | some b => exact ⟨b, rfl⟩
    | none => exact (t2 h b0 (by omega) (by have := uG_lt hb03; omega) ⟨hb02, by rw [hg2 b0 hb01]; exact hb03, (ht2 b0 hb01).2 hb04⟩).elim
  obtain ⟨b, hb⟩ := hcb
  obtain ⟨c1, c2, hbm, hbf, hbt, hbl⟩ := t1 b hb
  rw [hg2 b (by omega)] at hbf
  refine ⟨a, b, ?_, ⟨by omega, ham, hbm, hone haf, hone hbf⟩, by omega, (ht2 b (by omega)).1 hbt, fun a' b' hp hfe' => ?_⟩
  · have e1 : chS may us.length m ⟨0, -1, need, us⟩ = ⟨a, a, need.set m 1, us.set a (-2)⟩ := by
      unfold chS
      dsimp only
      rw [show ((-1 : Int) + 1).toNat = 0 from rfl, Nat.sub_zero, ha]
      dsimp only
      rw [h2]
    have e2 : chS may us.length m ⟨a, a, need.set m 1, us.set a (-2)⟩ = ⟨b, b, need.set m 0, bar2 us a b⟩ := by
      unfold chS
      dsimp only
      rw [show ((a : Int) + 1).toNat = a + 1 by omega, hb]
      dsimp only
      rw [h21, set_set]
      rfl
    unfold chooseF
    dsimp only
    rw [e1, e2]
  · by_cases e : a < a'
    · exact Or.inl e
    · have ha'l := uG_lt (us := us) (u := a') (by rw [hp.fa]; decide)
      have e2 : a = a' := by
        apply Classical.byContradiction
        intro hne
        refine hal a' (Nat.zero_le _) (by omega) ⟨hp.ma, by rw [hp.fa]; decide, ?_⟩
        exact (try_first hf (Nat.le_refl _) hnd hm hml h2 ha'l).2 ⟨b', hp.lt, hp.mb, by rw [hp.fb]; decide, hfe'⟩
      subst e2
      refine Or.inr ⟨rfl, ?_⟩
      apply Classical.byContradiction
      intro hgt
      have := hp.lt
      exact hbl b' (by omega) (by omega) ⟨hp.mb, by rw [hg2 b' (by omega), hp.fb]; decide, (ht2 b' (by omega)).2 hfe'⟩
end Go.Proofs.Ytckbhdokfkabfaa
