/-
  Chapter 58: what a merge keeps. Plain.
-/
import Derived.Test.YtimmlffgokgekaaArcU
set_option linter.unusedSimpArgs false
set_option linter.unusedVariables false
namespace Go.Proofs.Ytimmlffgokgekaa
open Go.RowKit
theorem tkn_comm (x p q : Option Ent) : tkn x p q = tkn x q p := by
  unfold tkn
  by_cases h1 : p = x
  · by_cases h2 : q = x
    · rw [if_pos h1, if_pos h2, h1, h2]
    · rw [if_pos h1, if_neg h2, if_pos (Or.inl h1)]
  · by_cases h2 : q = x
    · rw [if_neg h1, if_pos (Or.inl h2), if_pos h2]
    · by_cases h3 : q = p
      · rw [if_neg h1, if_pos (Or.inr h3), if_neg h2, if_pos (Or.inr h3.symm), h3]
      · rw [if_neg h1, if_neg (by rintro (h | h); exact h2 h; exact h3 h), if_neg h2, if_neg (by rintro (h | h); exact h1 h; exact h3 h.symm)]
theorem cls_comm (x p q : Option Ent) : cls x p q = cls x q p := by
  unfold cls
  rw [Bool.eq_iff_iff]
  simp only [Bool.and_eq_true, Bool.not_eq_true', decide_eq_false_iff_not, not_or]
  exact ⟨fun h => ⟨h.2.1, h.1, fun e => h.2.2 e.symm⟩, fun h => ⟨h.2.1, h.1, fun e => h.2.2 e.symm⟩⟩
theorem idsU_comm (B L R : List Ent) : idsU B L R = idsU B R L :=
  pw_ext (idsU_spec B L R).1 (idsU_spec B R L).1 fun x => by
    rw [(idsU_spec B L R).2, (idsU_spec B R L).2]
    simp only [List.map_append, List.mem_append]
    constructor
    · rintro (h | h | h) <;> simp [h]
    · rintro (h | h | h) <;> simp [h]
theorem mOut_comm (B L R : List Ent) (ids : List Int) : mOut B L R ids = mOut B R L ids := by
  unfold mOut
  congr 1
  funext i
  exact tkn_comm _ _ _
theorem mCl_comm (B L R : List Ent) (ids : List Int) : mCl B L R ids = mCl B R L ids := by
  unfold mCl
  congr 1
  funext i
  exact cls_comm _ _ _
theorem fnd_out (B L R : List Ent) {ids : List Int} (hp : ids.Pairwise (· < ·)) (hid : ∀ i e, tkI B L R i = some e → e.id = i) (i : Int) : fnd (mOut B L R ids) i = if i ∈ ids then tkI B L R i else none := by
  induction ids with
  | nil => simp [mOut, fnd]
  | cons k r ih =>
    rw [List.pairwise_cons] at hp
    have h := ih hp.2
    have hcons : mOut B L R (k :: r) = (tkI B L R k).toList ++ mOut B L R r := by
      unfold mOut
      rw [List.filterMap_cons]
      cases tkI B L R k <;> rfl
    rw [hcons]
    by_cases e : i = k
    · subst e
      have hn : fnd (mOut B L R r) i = none := by
        rw [h, if_neg]
        intro hm
        have := hp.1 i hm
        omega
      rw [if_pos (by simp)]
      cases ht : tkI B L R i with
      | none => exact hn
      | some x =>
        show fnd (x :: mOut B L R r) i = some x
        unfold fnd
        rw [List.find?_cons, show decide (x.id = i) = true from decide_eq_true (hid i x ht)]
    · have hsk : fnd ((tkI B L R k).toList ++ mOut B L R r) i = fnd (mOut B L R r) i := by
        cases ht : tkI B L R k with
        | none => rfl
        | some x =>
          show fnd (x :: mOut B L R r) i = _
          unfold fnd
          rw [List.find?_cons, show decide (x.id = i) = false from decide_eq_false (by rw [hid k x ht]; exact fun h => e h.symm)]
      rw [hsk, h]
      by_cases hm : i ∈ r
      · rw [if_pos hm, if_pos (by simp [hm])]
      · rw [if_neg hm, if_neg (by simp [hm, e])]
theorem tkI_none {B L R : List Ent} {i : Int} (h : i ∉ idsU B L R) : fnd B i = none ∧ fnd L i = none ∧ fnd R i = none := by
  rw [(idsU_spec B L R).2] at h
  simp only [List.map_append, List.mem_append, List.mem_map, not_or, not_exists, not_and] at h
  exact ⟨fnd_none.2 h.1, fnd_none.2 h.2.1, fnd_none.2 h.2.2⟩
theorem fnd_merge {B L R : List Ent} (hB : GoodA B) (hL : GoodA L) (hR : GoodA R) (i : Int) : fnd (mOut B L R (idsU B L R)) i = tkI B L R i := by
  rw [fnd_out B L R (idsU_spec B L R).1 (fun i e h => (tkI_pos hB hL hR h).2)]
  by_cases h : i ∈ idsU B L R
  · rw [if_pos h]
  · rw [if_neg h]
    obtain ⟨h1, h2, h3⟩ := tkI_none h
    unfold tkI tkn
    rw [h1, h2, h3]
    simp
theorem cl_merge (B L R : List Ent) (i : Int) : i ∈ mCl B L R (idsU B L R) ↔ clI B L R i = true := by
  unfold mCl
  rw [List.mem_filter]
  constructor
  · exact fun h => h.2
  · intro h
    refine ⟨?_, h⟩
    by_cases hm : i ∈ idsU B L R
    · exact hm
    · obtain ⟨h1, h2, h3⟩ := tkI_none hm
      unfold clI cls at h
      rw [h1, h2, h3] at h
      simp at h
theorem mOut_ids {B L R : List Ent} (hid : ∀ i e, tkI B L R i = some e → e.id = i) {ids : List Int} (hp : ids.Pairwise (· < ·)) : ((mOut B L R ids).map Ent.id).Pairwise (· < ·) ∧ ∀ x ∈ mOut B L R ids, x.id ∈ ids := by
  induction ids with
  | nil => simp [mOut]
  | cons k r ih =>
    rw [List.pairwise_cons] at hp
    obtain ⟨h1, h2⟩ := ih hp.2
    unfold mOut at h1 h2 ⊢
    rw [List.filterMap_cons]
    cases ht : tkI B L R k with
    | none => exact ⟨h1, fun x hx => by have := h2 x hx; simp [this]⟩
    | some e =>
      have he := hid k e ht
      refine ⟨?_, ?_⟩
      · simp only [List.map_cons]
        rw [List.pairwise_cons]
        refine ⟨fun z hz => ?_, h1⟩
        obtain ⟨y, hy, rfl⟩ := List.mem_map.1 hz
        rw [he]
        exact hp.1 _ (h2 y hy)
      · intro x hx
        rcases List.mem_cons.1 hx with rfl | hx
        · rw [he]; simp
        · have := h2 x hx; simp [this]
theorem mOut_mem {B L R : List Ent} {ids : List Int} {x : Ent} (h : x ∈ mOut B L R ids) : x ∈ B ∨ x ∈ L ∨ x ∈ R := by
  unfold mOut at h
  obtain ⟨i, _, hi⟩ := List.mem_filterMap.1 h
  unfold tkI tkn at hi
  split at hi
  · exact Or.inr (Or.inr (fnd_id hi).1)
  · split at hi
    · exact Or.inr (Or.inl (fnd_id hi).1)
    · exact Or.inl (fnd_id hi).1
theorem good_merge {B L R : List Ent} (hB : GoodA B) (hL : GoodA L) (hR : GoodA R) : GoodA (mOut B L R (idsU B L R)) := by
  refine ⟨fun x hx => ?_, (mOut_ids (fun i e h => (tkI_pos hB hL hR h).2) (idsU_spec B L R).1).1⟩
  rcases mOut_mem hx with h | h | h
  · exact hB.ok x h
  · exact hL.ok x h
  · exact hR.ok x h
theorem mOut_len (B L R : List Ent) (ids : List Int) : (mOut B L R ids).length ≤ ids.length := List.length_filterMap_le _ _
theorem mCl_len (B L R : List Ent) (ids : List Int) : (mCl B L R ids).length ≤ ids.length := List.length_filter_le _ _
theorem idsU_len (B L R : List Ent) : (idsU B L R).length ≤ B.length + L.length + R.length := by
  have h1 := Lib.compact_length_le (sortL ((B ++ (L ++ R)).map Ent.id))
  rw [sortL_len] at h1
  simp at h1
  unfold idsU
  rw [List.map_append, List.map_append]
  omega
/-- What 'has' answers. -/
def hasF (f : List Ent) (i : Int) : Ent × Bool := ((fnd f i).getD zEnt, (fnd f i).isSome)
theorem has_eq (p q : Option Ent) : ((decide (p.getD zEnt = q.getD zEnt)) && (p.isSome == q.isSome)) = decide (p = q) := by
  cases p <;> cases q <;> simp
end Go.Proofs.Ytimmlffgokgekaa
