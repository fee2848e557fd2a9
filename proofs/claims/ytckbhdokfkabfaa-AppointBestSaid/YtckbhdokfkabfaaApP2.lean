/-
  Chapter 55, plain: filling all matches; whether all can be filled.
-/
import Derived.Test.YtckbhdokfkabfaaApP1
set_option linter.unusedSimpArgs false
set_option linter.unusedVariables false
namespace Go.Proofs.Ytckbhdokfkabfaa
/-- As many more umpires of match m as k says; whether one was not to be had. -/
def fillM (may : List (List Bool)) (n m : Nat) : Nat → List Int → Bool × List Int
  | 0, us => (false, us)
  | k + 1, us =>
    if (placeF may (n + 1) m us (List.replicate n false)).1 = true then fillM may n m k (placeF may (n + 1) m us (List.replicate n false)).2.1
    else (true, (placeF may (n + 1) m us (List.replicate n false)).2.1)
def fillF (may : List (List Bool)) (n : Nat) : List Nat → Nat → List Int → List Nat → List Nat × List Int
  | [], _, us, lk => (lk, us)
  | k :: r, m, us, lk => fillF may n r (m + 1) (fillM may n m k us).2 (if (fillM may n m k us).1 = true then lk ++ [m] else lk)
/-- What filling keeps: lengths, who may not be used, and every closed set of matches. -/
structure FiOk (may : List (List Bool)) (nm : Nat) (us us' : List Int) : Prop where
  ulen : us'.length = us.length
  bar : ∀ u, uG us' u = -2 ↔ uG us u = -2
  val : Val may nm us'
  clo : ∀ C : Nat → Prop, Clo may us C → Clo may us' C
theorem FiOk.refl {may : List (List Bool)} {nm : Nat} {us : List Int} (h : Val may nm us) : FiOk may nm us us := ⟨rfl, fun _ => Iff.rfl, h, fun _ h => h⟩
theorem FiOk.trans {may : List (List Bool)} {nm : Nat} {a b c : List Int} (h : FiOk may nm a b) (k : FiOk may nm b c) : FiOk may nm a c :=
  ⟨k.ulen.trans h.ulen, fun u => (k.bar u).trans (h.bar u), k.val, fun C hC => k.clo C (h.clo C hC)⟩
theorem PlOk.fi {may : List (List Bool)} {nm m : Nat} {us us' : List Int} {se se' : List Bool} (h : PlOk may nm m us se true us' se') : FiOk may nm us us' :=
  ⟨h.ulen, h.bar, h.val, fun C hC x hx u hu hb => by
    obtain ⟨y, hy, hc⟩ := hC x hx u hu (fun e => hb ((h.bar u).2 e))
    exact ⟨y, ((h.stay rfl C hC).2 u y hc).2 hy, hc⟩⟩
theorem fillM_ok {may : List (List Bool)} {nm n m : Nat} (hm : m < nm) : ∀ (k : Nat) (us : List Int), Val may nm us → us.length ≤ n →
    FiOk may nm us (fillM may n m k us).2 ∧ (∀ x, x ≠ m → cntU (fillM may n m k us).2 x = cntU us x) ∧
    ((fillM may n m k us).1 = false → cntU (fillM may n m k us).2 m = cntU us m + k) ∧
    ((fillM may n m k us).1 = true → cntU (fillM may n m k us).2 m < cntU us m + k ∧ ∃ C, Clo may (fillM may n m k us).2 C ∧ C m) := by
  intro k
  induction k with
  | zero => intro us hv hl; exact ⟨FiOk.refl hv, fun _ _ => rfl, fun _ => rfl, fun h => by cases h⟩
  | succ k ih =>
    intro us hv hl
    have hp := place_ok (n + 1) m us (List.replicate n false) hm hv
    have hq := fun h => place_clo (n := n) hm hv hl h
    unfold fillM
    obtain ⟨R, hR⟩ : ∃ R, placeF may (n + 1) m us (List.replicate n false) = R := ⟨_, rfl⟩
    rw [hR] at hp hq ⊢
    by_cases h : R.1 = true
    · rw [if_pos h]
      rw [h] at hp
      obtain ⟨a1, a2, a3, a4⟩ := ih R.2.1 hp.val (by rw [hp.ulen]; exact hl)
      have hc := hp.cnt rfl
      have hcm := hc m
      rw [if_pos rfl] at hcm
      refine ⟨hp.fi.trans a1, (fun x hx => by rw [a2 x hx, hc x, if_neg hx]; rfl), (fun h => by rw [a3 h]; omega), fun h => ?_⟩
      obtain ⟨b1, b2⟩ := a4 h
      exact ⟨by omega, b2⟩
    · have h' : R.1 = false := by cases h : R.1 <;> simp_all
      rw [if_neg h]
      have hus := hp.fail h'
      show FiOk may nm us R.2.1 ∧ (∀ x, x ≠ m → cntU R.2.1 x = cntU us x) ∧ _
      rw [hus]
      refine ⟨FiOk.refl hv, fun _ _ => rfl, (fun h => by cases h), fun _ => ⟨Nat.lt_add_of_pos_right (Nat.succ_pos k), hq h'⟩⟩
/-- Between the matches: those before m are full but for those that lack one, which stand in closed sets. -/
structure FiInv (may : List (List Bool)) (nm : Nat) (need : List Nat) (us0 : List Int) (m : Nat) (us : List Int) (lk : List Nat) : Prop where
  ok : FiOk may nm us0 us
  full : ∀ x, x < m → x ∉ lk → cntU us x = need[x]?.getD 0
  part : ∀ x, x ∈ lk → x < m ∧ cntU us x < need[x]?.getD 0 ∧ ∃ C, Clo may us C ∧ C x
  none : ∀ x, m ≤ x → cntU us x = 0
  sorted : lk.Pairwise (· < ·)
theorem fillF_ok {may : List (List Bool)} {nm n : Nat} {need : List Nat} {us0 : List Int} (hn : us0.length ≤ n) (hnd : need.length = nm) : ∀ (r : List Nat) (m : Nat) (us : List Int) (lk : List Nat), need.drop m = r → m ≤ nm → FiInv may nm need us0 m us lk →
    FiInv may nm need us0 nm (fillF may n r m us lk).2 (fillF may n r m us lk).1 := by
  intro r
  induction r with
  | nil =>
    intro m us lk hr hm h
    have : nm ≤ m := by have := congrArg List.length hr; simp at this; omega
    have : m = nm := by omega
    subst this
    exact h
  | cons k r ih =>
    intro m us lk hr hm h
    have hml : m < nm := by have := congrArg List.length hr; simp at this; omega
    have hk : need[m]?.getD 0 = k := by
      have : (need.drop m)[0]? = some k := by rw [hr]; rfl
      rw [List.getElem?_drop] at this
      simp at this
      rw [this]; rfl
    have hr' : need.drop (m + 1) = r := by
      have := congrArg List.tail hr
      simpa using this
    unfold fillF
    obtain ⟨a1, a2, a3, a4⟩ := fillM_ok (n := n) hml k us h.ok.val (by rw [h.ok.ulen]; exact hn)
    obtain ⟨R, hR⟩ : ∃ R, fillM may n m k us = R := ⟨_, rfl⟩
    rw [hR] at a1 a2 a3 a4 ⊢
    have h0 := h.none m (Nat.le_refl _)
    refine ih (m + 1) R.2 _ hr' hml ?_
    have hpart : ∀ x, x ∈ lk → x < m + 1 ∧ cntU R.2 x < need[x]?.getD 0 ∧ ∃ C, Clo may R.2 C ∧ C x := fun x hx => by
      obtain ⟨b1, b2, C, b3, b4⟩ := h.part x hx
      exact ⟨by omega, by rw [a2 x (by omega)]; exact b2, C, a1.clo C b3, b4⟩
    by_cases hl : R.1 = true
    · rw [if_pos hl]
      obtain ⟨c1, c2⟩ := a4 hl
      refine ⟨h.ok.trans a1, fun x hx hnl => ?_, fun x hx => ?_, fun x hx => ?_, ?_⟩
      · have hxm : x ≠ m := fun e => hnl (by rw [e]; simp)
        rw [a2 x hxm]
        exact h.full x (by omega) (fun e => hnl (by simp [e]))
      · rcases List.mem_append.1 hx with hx | hx
        · exact hpart x hx
        · simp at hx; subst hx
          exact ⟨by omega, by rw [hk]; omega, c2⟩
      · rw [a2 x (by omega)]; exact h.none x (by omega)
      · rw [List.pairwise_append]
        refine ⟨h.sorted, by simp, fun a ha b hb => ?_⟩
        simp at hb; subst hb
        exact (h.part a ha).1
    · have hl' : R.1 = false := by cases h : R.1 <;> simp_all
      rw [if_neg hl]
      refine ⟨h.ok.trans a1, fun x hx hnl => ?_, hpart, fun x hx => ?_, h.sorted⟩
      · by_cases hxm : x = m
        · subst hxm
          rw [a3 hl', h0, hk]; omega
        · rw [a2 x hxm]
          exact h.full x (by omega) hnl
      · rw [a2 x (by omega)]; exact h.none x (by omega)
/-- Nobody stands yet. -/
def Fresh (us : List Int) : Prop := ∀ u, uG us u = -2 ∨ uG us u = -1
theorem Fresh.val {may : List (List Bool)} {nm : Nat} {us : List Int} (h : Fresh us) : Val may nm us := fun u => (h u).elim Or.inl (fun e => Or.inr (Or.inl e))
theorem Fresh.cnt {us : List Int} (h : Fresh us) (x : Nat) : cntU us x = 0 := by
  unfold cntU
  apply List.count_eq_zero.2
  intro hx
  obtain ⟨u, hu, he⟩ := List.getElem_of_mem hx
  have : uG us u = (x : Int) := by unfold uG; rw [List.getElem?_eq_getElem hu, he]; rfl
  rcases h u with h | h <;> omega
theorem fill_inv {may : List (List Bool)} {nm n : Nat} {need : List Nat} {us0 : List Int} (hn : us0.length ≤ n) (hnd : need.length = nm) (h : Fresh us0) : FiInv may nm need us0 nm (fillF may n need 0 us0 []).2 (fillF may n need 0 us0 []).1 :=
  fillF_ok hn hnd need 0 us0 [] rfl (Nat.zero_le _) ⟨FiOk.refl h.val, (fun x hx => by omega), (fun x hx => by simp at hx), fun x _ => h.cnt x, List.Pairwise.nil⟩
/-- A full assignment of those who may be used. -/
structure Full (may : List (List Bool)) (nm : Nat) (need : List Nat) (us0 g : List Int) : Prop where
  len : g.length = us0.length
  bar : ∀ u, uG us0 u = -2 → uG g u = -2
  val : Val may nm g
  cnt : ∀ x, x < nm → cntU g x = need[x]?.getD 0
/-- How many stand in one of the matches of a list without repetition. -/
theorem cnt_sum (l : List Nat) (hl : l.Nodup) (us : List Int) : (l.map (cntU us)).sum = us.countP (fun v => decide (∃ x ∈ l, v = (x : Int))) := by
  induction us with
  | nil =>
    have h0 : ∀ m : List Nat, (m.map (cntU [])).sum = 0 := by
      intro m
      induction m with
      | nil => rfl
      | cons a m im => simp only [List.map_cons, List.sum_cons, im]; rfl
    rw [h0]; rfl
  | cons v us ih =>
    have h1 : ∀ x, cntU (v :: us) x = cntU us x + if v = (x : Int) then 1 else 0 := fun x => by
      unfold cntU; rw [List.count_cons]; simp
    have h2 : ∀ m : List Nat, (m.map (cntU (v :: us))).sum = (m.map (cntU us)).sum + (m.map (fun x : Nat => if v = (x : Int) then 1 else 0)).sum := by
      intro m
      induction m with
      | nil => rfl
      | cons a m im => simp only [List.map_cons, List.sum_cons, im, h1 a]; omega
    have h3 : ∀ m : List Nat, m.Nodup → (m.map (fun x : Nat => if v = (x : Int) then 1 else 0)).sum = if ∃ x ∈ m, v = (x : Int) then 1 else 0 := by
      intro m hm
      induction m with
      | nil => simp
      | cons a m im =>
        rw [List.nodup_cons] at hm
        simp only [List.map_cons, List.sum_cons, im hm.2]
        by_cases ha : v = (a : Int)
        · have hno : ¬ ∃ x ∈ m, v = (x : Int) := by
            rintro ⟨x, hx, hv⟩
            have : x = a := by omega
            subst this
            exact hm.1 hx
          rw [if_pos ha, if_neg hno, if_pos ⟨a, by simp, ha⟩]
        · rw [if_neg ha]
          by_cases hx : ∃ x ∈ m, v = (x : Int)
          · rw [if_pos hx, if_pos (by obtain ⟨x, h, k⟩ := hx; exact ⟨x, by simp [h], k⟩)]
          · rw [if_neg hx, if_neg (by rintro ⟨x, h, k⟩; simp at h; rcases h with rfl | h; exact ha k; exact hx ⟨x, h, k⟩)]
    rw [h2, ih, h3 l hl, List.countP_cons]
    simp
theorem countP_idx {us : List Int} {p q : Int → Bool} {vs : List Int} (hl : us.length = vs.length) (h : ∀ u, u < us.length → p (uG us u) = true → q (uG vs u) = true) : us.countP p ≤ vs.countP q := by
  induction us generalizing vs with
  | nil => simp
  | cons a us ih =>
    cases vs with
    | nil => simp at hl
    | cons b vs =>
      have h1 := ih (vs := vs) (by simpa using hl) (fun u hu hp => by have := h (u + 1) (by simp; omega) (by simpa [uG] using hp); simpa [uG] using this)
      have h2 := h 0 (by simp)
      simp only [uG, List.getElem?_cons_zero, Option.getD_some] at h2
      simp only [List.countP_cons]
      by_cases h3 : p a = true
      · rw [if_pos h3, if_pos (h2 h3)]; omega
      · rw [if_neg h3]; split <;> omega
theorem sum_le {α : Type} (l : List α) (f g : α → Nat) (h : ∀ x ∈ l, f x ≤ g x) : (l.map f).sum ≤ (l.map g).sum := by
  induction l with
  | nil => exact Nat.le_refl _
  | cons a l ih =>
    have := ih (fun x hx => h x (by simp [hx]))
    have := h a (by simp)
    simp only [List.map_cons, List.sum_cons]
    omega
theorem sum_lt {α : Type} (l : List α) (f g : α → Nat) (h : ∀ x ∈ l, f x ≤ g x) {y : α} (hy : y ∈ l) (hlt : f y < g y) : (l.map f).sum < (l.map g).sum := by
  induction l with
  | nil => simp at hy
  | cons a l ih =>
    have h1 := h a (by simp)
    have h2 := sum_le l f g (fun x hx => h x (by simp [hx]))
    simp only [List.map_cons, List.sum_cons]
    rcases List.mem_cons.1 hy with e | e
    · subst e; omega
    · have := ih (fun x hx => h x (by simp [hx])) e; omega
/-- Nothing lacks exactly if there is a full assignment. -/
theorem fill_iff {may : List (List Bool)} {nm n : Nat} {need : List Nat} {us0 : List Int} (hn : us0.length ≤ n) (hnd : need.length = nm) (h : Fresh us0) :
    (fillF may n need 0 us0 []).1 = [] ↔ ∃ g, Full may nm need us0 g := by
  have hi := fill_inv (may := may) hn hnd h
  obtain ⟨lk, hlk⟩ : ∃ y, (fillF may n need 0 us0 []).1 = y := ⟨_, rfl⟩
  obtain ⟨us, hus⟩ : ∃ y, (fillF may n need 0 us0 []).2 = y := ⟨_, rfl⟩
  rw [hlk, hus] at hi
  rw [hlk]
  constructor
  · intro e
    subst e
    exact ⟨us, hi.ok.ulen, fun u hu => (hi.ok.bar u).2 hu, hi.ok.val, fun x hx => hi.full x hx (by simp)⟩
  · rintro ⟨g, hg⟩
    apply Classical.byContradiction
    intro hne
    obtain ⟨x0, hx0⟩ := List.exists_mem_of_ne_nil lk hne
    obtain ⟨hx0n, hlt, C, hC, hCx⟩ := hi.part x0 hx0
    let l := (List.range nm).filter (fun x => @decide (C x) (Classical.propDecidable _))
    have hl : l.Nodup := List.Pairwise.filter _ List.nodup_range
    have hmem : ∀ x, x ∈ l ↔ x < nm ∧ C x := fun x => by simp [l]
    have h1 := cnt_sum l hl us
    have h2 := cnt_sum l hl g
    have h3 : g.countP (fun v => decide (∃ x ∈ l, v = (x : Int))) ≤ us.countP (fun v => decide (∃ x ∈ l, v = (x : Int))) := by
      refine countP_idx (by rw [hg.len, hi.ok.ulen]) (fun u hu hp => ?_)
      rw [decide_eq_true_eq] at hp ⊢
      obtain ⟨x, hx, hxe⟩ := hp
      have hxC := ((hmem x).1 hx).2
      have hm : bG (rG may x) u = true := by
        rcases hg.val u with e | e | ⟨y, hy, hye, hym⟩
        · omega
        · omega
        · have : y = x := by omega
          subst this
          exact hym
      have hb : uG us u ≠ -2 := fun e => by have := hg.bar u ((hi.ok.bar u).1 e); omega
      obtain ⟨y, hy, hyC⟩ := hC x hxC u hm hb
      have hyn : y < nm := by
        rcases hi.ok.val u with e | e | ⟨z, hz, hze, _⟩ <;> omega
      exact ⟨y, (hmem y).2 ⟨hyn, hyC⟩, hy⟩
    have h4 : (l.map (cntU us)).sum < (l.map (cntU g)).sum := by
      refine sum_lt l _ _ (fun x hx => ?_) ((hmem x0).2 ⟨hx0n, hCx⟩) ?_
      · have hxn := ((hmem x).1 hx).1
        rw [hg.cnt x hxn]
        by_cases e : x ∈ lk
        · exact Nat.le_of_lt (hi.part x e).2.1
        · exact Nat.le_of_eq (hi.full x hxn e)
      · rw [hg.cnt x0 hx0n]; exact hlt
    omega
end Go.Proofs.Ytckbhdokfkabfaa
