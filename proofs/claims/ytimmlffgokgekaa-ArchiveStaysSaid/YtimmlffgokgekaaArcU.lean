/-
  Chapter 58: the IDs of three files, ascending, each once: as the program and as the reference make them. Plain.
-/
import Derived.Test.YtimmlffgokgekaaArcM
set_option linter.unusedSimpArgs false
set_option linter.unusedVariables false
namespace Go.Proofs.Ytimmlffgokgekaa
open Go.RowKit
theorem pw_ext : ∀ {l m : List Int}, l.Pairwise (· < ·) → m.Pairwise (· < ·) → (∀ x, x ∈ l ↔ x ∈ m) → l = m := by
  intro l
  induction l with
  | nil =>
    intro m _ _ h
    cases m with
    | nil => rfl
    | cons y r => exact absurd ((h y).2 (by simp)) (by simp)
  | cons x r ih =>
    intro m hl hm h
    cases m with
    | nil => exact absurd ((h x).1 (by simp)) (by simp)
    | cons y s =>
      rw [List.pairwise_cons] at hl hm
      have hxy : x = y := by
        rcases List.mem_cons.1 ((h x).1 (by simp)) with e | h1
        · exact e
        · rcases List.mem_cons.1 ((h y).2 (by simp)) with e | h2
          · exact e.symm
          · have h3 := hl.1 y h2; have h4 := hm.1 x h1; omega
      subst hxy
      congr 1
      refine ih hl.2 hm.2 fun z => ⟨fun hz => ?_, fun hz => ?_⟩
      · rcases List.mem_cons.1 ((h z).1 (by simp [hz])) with e | h2
        · subst e; have := hl.1 z hz; omega
        · exact h2
      · rcases List.mem_cons.1 ((h z).2 (by simp [hz])) with e | h2
        · subst e; have := hm.1 z hz; omega
        · exact h2
def insI : List Int → Int → List Int
  | [], x => [x]
  | y :: r, x => if y < x then y :: insI r x else if y = x then y :: r else x :: y :: r
theorem insI_mem (l : List Int) (x z : Int) : z ∈ insI l x ↔ z = x ∨ z ∈ l := by
  induction l with
  | nil => simp [insI]
  | cons y r ih =>
    unfold insI
    split
    · rw [List.mem_cons, ih, List.mem_cons]
      exact or_left_comm
    · split
      · rename_i h; subst h
        rw [List.mem_cons]
        exact ⟨fun h => Or.inr h, fun h => h.elim (fun e => Or.inl e) id⟩
      · rw [List.mem_cons]
theorem insI_pw {l : List Int} (x : Int) (h : l.Pairwise (· < ·)) : (insI l x).Pairwise (· < ·) := by
  induction l with
  | nil => simp [insI]
  | cons y r ih =>
    rw [List.pairwise_cons] at h
    unfold insI
    split
    · rename_i h1
      rw [List.pairwise_cons]
      refine ⟨fun z hz => ?_, ih h.2⟩
      rcases (insI_mem r x z).1 hz with rfl | h2
      · exact h1
      · exact h.1 z h2
    · split
      · rw [List.pairwise_cons]; exact h
      · rw [List.pairwise_cons, List.pairwise_cons]
        refine ⟨fun z hz => ?_, h⟩
        rcases List.mem_cons.1 hz with rfl | h2
        · omega
        · have := h.1 z h2; omega
theorem insI_len (l : List Int) (x : Int) : (insI l x).length ≤ l.length + 1 := by
  induction l with
  | nil => simp [insI]
  | cons y r ih =>
    unfold insI
    split
    · simp; exact ih
    · split <;> simp
theorem insI_at {l : List Int} {x : Int} {k : Nat} (hk : k ≤ l.length) (hlt : ∀ j y, j < k → l[j]? = some y → y < x) (hend : ∀ y, l[k]? = some y → ¬ y < x) : insI l x = if l[k]? = some x then l else l.take k ++ ([x] ++ l.drop k) := by
  induction l generalizing k with
  | nil =>
    have : k = 0 := by simpa using hk
    subst this
    simp [insI]
  | cons y r ih =>
    unfold insI
    cases k with
    | zero =>
      have h0 := hend y rfl
      rw [if_neg h0]
      by_cases e : y = x
      · rw [if_pos e, if_pos (by simp [e])]
      · rw [if_neg e, if_neg (by simpa using e)]; simp
    | succ k =>
      have h0 := hlt 0 y (by omega) rfl
      rw [if_pos h0, ih (k := k) (by simpa using hk) (fun j z hj hz => hlt (j + 1) z (by omega) (by simpa using hz)) (fun z hz => hend z (by simpa using hz))]
      by_cases e : r[k]? = some x
      · rw [if_pos e, if_pos (by simpa using e)]
      · rw [if_neg e, if_neg (by simpa using e)]; simp
def insL (l : List Int) (xs : List Int) : List Int := xs.foldl insI l
theorem insL_mem (l xs : List Int) (z : Int) : z ∈ insL l xs ↔ z ∈ l ∨ z ∈ xs := by
  induction xs generalizing l with
  | nil => simp [insL]
  | cons x r ih =>
    show z ∈ insL (insI l x) r ↔ _
    rw [ih, insI_mem]
    simp
    constructor
    · rintro ((h | h) | h) <;> simp [h]
    · rintro (h | h | h) <;> simp [h]
theorem insL_pw {l : List Int} (xs : List Int) (h : l.Pairwise (· < ·)) : (insL l xs).Pairwise (· < ·) := by
  induction xs generalizing l with
  | nil => exact h
  | cons x r ih => exact ih (insI_pw x h)
theorem insL_len (l xs : List Int) : (insL l xs).length ≤ l.length + xs.length := by
  induction xs generalizing l with
  | nil => simp [insL]
  | cons x r ih =>
    have h1 := ih (insI l x)
    have h2 := insI_len l x
    show (insL (insI l x) r).length ≤ _
    simp; omega
theorem insL_snoc (l xs : List Int) (x : Int) : insL l (xs ++ [x]) = insI (insL l xs) x := by unfold insL; rw [List.foldl_append]; rfl
theorem insL_app (l xs ys : List Int) : insL l (xs ++ ys) = insL (insL l xs) ys := by unfold insL; rw [List.foldl_append]
/-- What slices.Compact keeps of a list that does not fall. -/
theorem cmpUp (d : Array Int) (hs : ∀ i j, i < j → j < d.size → d[i]! ≤ d[j]!) : ∀ m, m ≤ d.size → (Lib.compactUpTo d m).Pairwise (· < ·) ∧ (∀ x, x ∈ Lib.compactUpTo d m ↔ ∃ j, j < m ∧ d[j]! = x) := by
  intro m
  induction m with
  | zero => intro _; exact ⟨by simp [Lib.compactUpTo], by simp [Lib.compactUpTo]⟩
  | succ m ih =>
    intro hm
    obtain ⟨h1, h2⟩ := ih (by omega)
    rw [Lib.compactUpTo_succ]
    by_cases hk : Lib.keeps d m = true
    · rw [if_pos hk]
      refine ⟨?_, fun x => ?_⟩
      · rw [List.pairwise_append]
        refine ⟨h1, by simp, fun x hx y hy => ?_⟩
        simp at hy
        subst hy
        obtain ⟨j, hj, rfl⟩ := (h2 x).1 hx
        unfold Lib.keeps at hk
        simp at hk
        have h3 : d[j]! ≤ d[m - 1]! := by
          by_cases e : j = m - 1
          · rw [e]; exact Int.le_refl _
          · exact hs j (m - 1) (by omega) (by omega)
        have h4 := hs (m - 1) m (by omega) (by omega)
        rcases hk with hk | hk
        · omega
        · omega
      · rw [List.mem_append, h2]
        constructor
        · rintro (⟨j, hj, rfl⟩ | h)
          · exact ⟨j, by omega, rfl⟩
          · simp at h; exact ⟨m, by omega, h.symm⟩
        · rintro ⟨j, hj, rfl⟩
          by_cases e : j = m
          · subst e; right; simp
          · left; exact ⟨j, by omega, rfl⟩
    · rw [if_neg hk, List.append_nil]
      refine ⟨h1, fun x => ?_⟩
      rw [h2]
      unfold Lib.keeps at hk
      simp at hk
      constructor
      · rintro ⟨j, hj, rfl⟩; exact ⟨j, by omega, rfl⟩
      · rintro ⟨j, hj, rfl⟩
        by_cases e : j = m
        · subst e; exact ⟨j - 1, by omega, hk.2.symm⟩
        · exact ⟨j, by omega, rfl⟩
theorem sortL_up (zs : List Int) : (sortL zs).Pairwise (· ≤ ·) := by
  have := List.pairwise_mergeSort (le := fun x y : Int => decide (x ≤ y)) (fun a b c h1 h2 => by simp at *; omega) (fun a b => by simp; omega) zs
  exact List.Pairwise.imp (by intro a b h; simpa using h) this
theorem sortL_mem (zs : List Int) (x : Int) : x ∈ sortL zs ↔ x ∈ zs := by unfold sortL; exact List.mem_mergeSort
theorem compact_spec {zs : List Int} (h : zs.Pairwise (· ≤ ·)) : (Lib.compact zs).Pairwise (· < ·) ∧ ∀ x, x ∈ Lib.compact zs ↔ x ∈ zs := by
  have := cmpUp zs.toArray (fun i j hij hj => by
    rw [List.pairwise_iff_getElem] at h
    simp at hj
    have := h i j (by omega) hj hij
    simpa [getElem!_pos, hj, show i < zs.length by omega] using this) zs.length (by simp)
  refine ⟨this.1, fun x => ?_⟩
  rw [show Lib.compact zs = Lib.compactUpTo zs.toArray zs.length from rfl, this.2 x]
  constructor
  · rintro ⟨j, hj, rfl⟩
    rw [getElem!_pos zs.toArray j (by simpa using hj)]
    simp
  · intro hx
    obtain ⟨j, hj, rfl⟩ := List.getElem_of_mem hx
    exact ⟨j, hj, by rw [getElem!_pos zs.toArray j (by simpa using hj)]; simp⟩
theorem idsU_spec (B L R : List Ent) : (idsU B L R).Pairwise (· < ·) ∧ ∀ x, x ∈ idsU B L R ↔ x ∈ (B ++ (L ++ R)).map Ent.id := by
  obtain ⟨h1, h2⟩ := compact_spec (sortL_up ((B ++ (L ++ R)).map Ent.id))
  exact ⟨h1, fun x => (h2 x).trans (sortL_mem _ x)⟩
theorem idsU_ins (B L R : List Ent) : insL [] ((B ++ (L ++ R)).map Ent.id) = idsU B L R :=
  pw_ext (insL_pw _ List.Pairwise.nil) (idsU_spec B L R).1 fun x => by rw [insL_mem, (idsU_spec B L R).2]; simp
end Go.Proofs.Ytimmlffgokgekaa
