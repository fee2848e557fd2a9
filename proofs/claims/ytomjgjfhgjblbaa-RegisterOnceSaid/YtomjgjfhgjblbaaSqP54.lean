/-
  Chapter 54 in plain Lean: the squad; who is in it.
-/
import Derived.Test.YtomjgjfhgjblbaaSpec54
import Derived.Lib.SlicesCompact
namespace Go.Proofs.Ytomjgjfhgjblbaa
open Go.RowKit
abbrev Bs := List UInt8
theorem upTo_memB (zs : List Bs) : ∀ m, m ≤ zs.length → ∀ i (h : i < zs.length), i < m → zs[i] ∈ Lib.compactUpTo zs.toArray m
  | 0, _, i, _, hi => by omega
  | m + 1, hm, i, h, hi => by
    have getE : ∀ {i : Nat} (h : i < zs.length), zs.toArray[i]! = zs[i] := fun h => by simp [h]
    rw [Lib.compactUpTo_succ]
    by_cases him : i = m
    · subst him
      cases hk : Lib.keeps zs.toArray i with
      | true => simp [getE h]
      | false =>
        have h0 : 0 < i := by
          rcases Nat.eq_zero_or_pos i with h0 | h0
          · subst h0; rw [Lib.keeps_lt_one _ 0 (by omega)] at hk; cases hk
          · exact h0
        have he : zs[i] = zs[i - 1] := by
          apply Classical.byContradiction
          intro hne
          have := Lib.keeps_pos (d := zs.toArray) (m := i) (by rw [getE h, getE (show i - 1 < zs.length by omega)]; exact hne)
          rw [hk] at this; cases this
        rw [List.mem_append]
        left
        rw [he]
        exact upTo_memB zs i (by omega) (i - 1) (by omega) (by omega)
    · rw [List.mem_append]
      left
      exact upTo_memB zs m (by omega) i h (by omega)
theorem compact_subB (zs : List Bs) : (Lib.compact zs).Sublist zs := by
  unfold Lib.compact Lib.compactUpTo
  have h : (List.range zs.length).map (zs.toArray[·]!) = zs := by
    apply List.ext_getElem
    · simp
    · intro i h1 h2
      simp at h1
      simp [h1]
  conv => rhs; rw [← h]
  exact (List.filter_sublist).map _
theorem mem_compactB (zs : List Bs) (x : Bs) : x ∈ Lib.compact zs ↔ x ∈ zs := by
  constructor
  · exact fun h => (compact_subB zs).subset h
  · intro h
    obtain ⟨i, hi, rfl⟩ := List.getElem_of_mem h
    exact upTo_memB zs zs.length (Nat.le_refl _) i hi hi
def sortB (zs : List Bs) : List Bs := zs.mergeSort fun x y => decide (x ≤ y)
theorem sortB_len (zs : List Bs) : (sortB zs).length = zs.length := List.length_mergeSort zs
theorem sortB_mem (zs : List Bs) (x : Bs) : x ∈ sortB zs ↔ x ∈ zs := List.mem_mergeSort
/-- The players that Squad gathers. -/
def gathB (l : List Tr) (t : ByteArray) (d : Int) (k : Nat) : List Bs := ((l.take k).filter fun z => !isE t && seq (teamB l z.p d) t).map fun z => z.p.data.toList
def squadB (l : List Tr) (t : ByteArray) (d : Int) : List Bs := Lib.compact (sortB (gathB l t d l.length))
theorem gath_len (l : List Tr) (t : ByteArray) (d : Int) (k : Nat) : (gathB l t d k).length ≤ k := by
  unfold gathB
  rw [List.length_map]
  refine Nat.le_trans (List.length_filter_le _ _) ?_
  rw [List.length_take]; omega
theorem gath_at {l : List Tr} {t : ByteArray} {d : Int} {k : Nat} {z : Tr} (h : l[k]? = some z) : gathB l t d (k + 1) = gathB l t d k ++ if (!isE t && seq (teamB l z.p d) t) = true then [z.p.data.toList] else [] := by
  obtain ⟨hk, rfl⟩ := List.getElem?_eq_some_iff.1 h
  unfold gathB
  rw [List.take_succ_eq_append_getElem hk, List.filter_append, List.map_append]
  congr 1
  by_cases hc : (!isE t && seq (teamB l l[k].p d) t) = true
  · rw [if_pos hc, List.filter_cons, if_pos hc]; rfl
  · rw [if_neg hc, List.filter_cons, if_neg hc]; rfl
theorem gath_emp (l : List Tr) (t : ByteArray) (d : Int) (k : Nat) (h : isE t = true) : gathB l t d k = [] := by
  unfold gathB
  rw [h]
  simp
theorem seq_refl (a : ByteArray) : seq a a = true := seq_eq.2 rfl
theorem squad_mem {l : List Tr} {t : ByteArray} {d : Int} {p : ByteArray} (ht : isE t = false) : p.data.toList ∈ squadB l t d ↔ (∃ z ∈ l, z.p = p) ∧ teamB l p d = t := by
  unfold squadB
  rw [mem_compactB, sortB_mem]
  unfold gathB
  rw [List.take_length, List.mem_map]
  constructor
  · rintro ⟨z, hz, he⟩
    rw [List.mem_filter] at hz
    obtain ⟨hz, hc⟩ := hz
    rw [ht] at hc
    simp only [Bool.not_false, Bool.true_and] at hc
    have hp : z.p = p := seq_eq.1 (by unfold seq; rw [he]; simp)
    rw [hp] at hc
    exact ⟨⟨z, hz, hp⟩, seq_eq.1 hc⟩
  · rintro ⟨⟨z, hz, rfl⟩, rfl⟩
    refine ⟨z, List.mem_filter.2 ⟨hz, ?_⟩, rfl⟩
    rw [ht, seq_refl]; rfl
def knownB (l : List Tr) (p : ByteArray) : Bool := l.any fun z => seq z.p p
theorem known_iff {l : List Tr} {p : ByteArray} : knownB l p = true ↔ ∃ z ∈ l, z.p = p := by
  unfold knownB
  rw [List.any_eq_true]
  exact exists_congr fun z => and_congr_right fun _ => seq_eq
theorem in_eq {l : List Tr} {t : ByteArray} {d : Int} {p : ByteArray} (ht : isE t = false) : decide (p.data.toList ∈ squadB l t d) = (knownB l p && seq (teamB l p d) t) := by
  apply Bool.eq_iff_iff.2
  rw [decide_eq_true_eq, squad_mem ht, Bool.and_eq_true, known_iff, seq_eq]
theorem elig_in {l : List Tr} {t : ByteArray} {d : Int} {p : ByteArray} (ht : isE t = false) (h : eligB l p t d = true) : decide (p.data.toList ∈ squadB l t d) = true := by
  rw [in_eq ht]
  unfold eligB at h
  unfold teamB
  cases hk : lastK l p d l.length with
  | none => rw [hk] at h; cases h
  | some k =>
    obtain ⟨_, z, hz, hp, _⟩ := lastK_some hk
    rw [hk] at h
    have h2 : eligAt l t d (some k) = true := h
    rw [eligAt_some hz] at h2
    simp only [Bool.and_eq_true] at h2
    rw [show teamAt l (some k) = z.t from teamAt_some hz, h2.1.2, Bool.and_true, known_iff]
    exact ⟨z, List.mem_of_getElem? hz, hp⟩
end Go.Proofs.Ytomjgjfhgjblbaa
