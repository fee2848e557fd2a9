/-
  Chapter 54: plain laws of RegisterStays.
-/
import Derived.Test.YtleegellkeedhaaAdd54
namespace Go.Proofs.Ytleegellkeedhaa
open Go.RowKit
theorem less_trans : ∀ a b c : List UInt8, Op.bytesLess a b = true → Op.bytesLess b c = true → Op.bytesLess a c = true
  | [], [], _, h, _ => by cases h
  | _ :: _, [], _, h, _ => by simp [Op.bytesLess] at h
  | _, _ :: _, [], _, h => by simp [Op.bytesLess] at h
  | [], _ :: _, _ :: _, _, _ => rfl
  | x :: a, y :: b, z :: c, h, h2 => by
    simp only [Op.bytesLess, Bool.or_eq_true, Bool.and_eq_true, decide_eq_true_eq, beq_iff_eq] at h h2 ⊢
    rcases h with h | ⟨rfl, h⟩
    · have h1 : x.toNat < y.toNat := h
      rcases h2 with h2 | ⟨rfl, h2⟩
      · have h3 : y.toNat < z.toNat := h2
        exact .inl (show x.toNat < z.toNat by omega)
      · exact .inl h
    · rcases h2 with h2 | ⟨rfl, h2⟩
      · exact .inl h2
      · exact .inr ⟨rfl, less_trans a b c h h2⟩
def befo (y x : Tr) : Prop := y.d < x.d ∨ (y.d = x.d ∧ slt y.p x.p = true)
theorem befo_trans {x y z : Tr} (h : befo x y) (h2 : befo y z) : befo x z := by
  unfold befo at *
  rcases h with h | ⟨h, h1⟩
  · rcases h2 with h2 | ⟨h2, h3⟩ <;> exact .inl (by omega)
  · rcases h2 with h2 | ⟨h2, h3⟩
    · exact .inl (by omega)
    · exact .inr ⟨by omega, less_trans _ _ _ h1 h3⟩
theorem badO_befo {y x : Tr} (h : badO y x = false) : befo y x := by
  unfold badO at h
  unfold befo
  simp at h
  by_cases e : x.d = y.d
  · exact .inr ⟨e.symm, h.2 e⟩
  · exact .inl (by omega)
theorem ck_ord {w : List Wn} {l : List Tr} (h : (ckT w l).2 = 0) {k : Nat} {y x : Tr} (hk : l[k]? = some y) (hk2 : l[k + 1]? = some x) : befo y x := by
  have hkl := (List.getElem?_eq_some_iff.1 hk2).1
  unfold ckT at h
  split at h
  · next h1 => exact absurd h h1
  · split at h
    · simp at h
    · have hsc : scan (tErr w l) l.length = none := by
        cases hs : scan (tErr w l) l.length with
        | none => rfl
        | some i =>
          rw [hs] at h
          exact absurd h (scan_ne hs)
      have h2 := scan_inv hsc (k + 1) hkl
      unfold tErr at h2
      rw [hk2] at h2
      simp only at h2
      have h3 : err1 l (k + 1) x = 0 := by
        by_cases e : err1 l (k + 1) x = 0
        · exact e
        · rw [if_neg e] at h2; exact absurd h2 e
      unfold err1 at h3
      split at h3
      · cases h3
      · split at h3
        · cases h3
        · split at h3
          · cases h3
          · next h5 =>
            simp only [befT, hk] at h5
            exact badO_befo (by simpa using h5)
theorem ck_sorted {w : List Wn} {l : List Tr} (h : (ckT w l).2 = 0) {j : Nat} {y : Tr} (hj : l[j]? = some y) : ∀ (n : Nat) (x : Tr), l[j + n + 1]? = some x → befo y x
  | 0, x, hx => ck_ord h hj hx
  | n + 1, x, hx => by
    obtain ⟨z, hz⟩ : ∃ z, l[j + n + 1]? = some z := ⟨_, List.getElem?_eq_getElem (by have := (List.getElem?_eq_some_iff.1 hx).1; omega)⟩
    exact befo_trans (ck_sorted h hj n z hz) (ck_ord h hz hx)
def ofP (p : ByteArray) (d : Int) (z : Tr) : Bool := seq z.p p && decide (z.d ≤ d)
def teamO : Option Tr → ByteArray
  | some z => z.t
  | none => ⟨#[]⟩
theorem team_take (l : List Tr) (p : ByteArray) (d : Int) : ∀ k, k ≤ l.length → teamAt l (lastK l p d k) = teamO ((l.take k).filter (ofP p d)).getLast?
  | 0, _ => rfl
  | k + 1, h => by
    obtain ⟨z, hz⟩ : ∃ z, l[k]? = some z := ⟨_, List.getElem?_eq_getElem (by omega)⟩
    rw [lastK_at hz, List.take_add_one, hz, Option.toList_some, List.filter_append]
    by_cases e : ofP p d z = true
    · have e' := e
      unfold ofP at e'
      rw [if_pos e', teamAt_some hz]
      simp [e, teamO]
    · have e' := e
      unfold ofP at e'
      rw [if_neg e', team_take l p d k (by omega)]
      simp [e]
theorem teamB_eq (l : List Tr) (p : ByteArray) (d : Int) : teamB l p d = teamO (l.filter (ofP p d)).getLast? := by
  unfold teamB
  rw [team_take l p d l.length (Nat.le_refl _), List.take_length]
theorem stays_other (l : List Tr) (t : Tr) (p : ByteArray) (d : Int) (h : ofP p d t = false) : teamB (insA l t) p d = teamB l p d := by
  rw [teamB_eq, teamB_eq]
  congr 2
  unfold insA
  rw [List.filter_append, List.filter_cons, h, if_neg (by simp), ← List.filter_append, List.take_append_drop]
theorem insA_at (l : List Tr) (t : Tr) : (insA l t)[posA l t]? = some t := by
  have := posA_le l t
  unfold insA
  rw [List.getElem?_append_right (by simp; omega)]
  simp [Nat.min_eq_left this]
theorem insA_after (l : List Tr) (t : Tr) (n : Nat) : (insA l t)[posA l t + n + 1]? = (l.drop (posA l t))[n]? := by
  have := posA_le l t
  unfold insA
  rw [List.getElem?_append_right (by simp; omega)]
  simp [Nat.min_eq_left this]
  rw [show posA l t + n + 1 - posA l t = n + 1 from by omega]
  simp
theorem stays_self {w : List Wn} {l : List Tr} {t : Tr} (h : (ckT w (insA l t)).2 = 0) : teamB (insA l t) t.p t.d = t.t := by
  rw [teamB_eq]
  have hn : (l.drop (posA l t)).filter (ofP t.p t.d) = [] := by
    rw [List.filter_eq_nil_iff]
    intro z hz ho
    obtain ⟨n, hn⟩ := List.mem_iff_getElem?.1 hz
    have hb := ck_sorted h (insA_at l t) n z (by rw [insA_after]; exact hn)
    unfold ofP at ho
    simp only [Bool.and_eq_true, decide_eq_true_eq, seq_eq] at ho
    rcases hb with hb | ⟨_, hb⟩
    · omega
    · rw [ho.1] at hb
      unfold slt at hb
      rw [less_irrefl] at hb
      cases hb
  have hp : ofP t.p t.d t = true := by
    unfold ofP
    simp [seq_eq]
  conv => lhs; rw [insA]
  rw [List.filter_append, List.filter_cons, if_pos hp, hn]
  simp [teamO]
theorem add_ok {w : List Wn} {l R : List Tr} {t : Tr} {E : Int} (h : addS w l t = (R, E)) (hE : E = 0) : R = insA l t ∧ (ckT w R).2 = 0 ∧ (ckT w l).2 = 0 := by
  subst hE
  unfold addS at h
  split at h
  · next h1 => injection h with _ h2; exact absurd h2 h1
  · next h1 =>
    split at h
    · injection h with _ h2; cases h2
    · split at h
      · next h3 => injection h with _ h2; exact absurd h2 h3
      · next h3 =>
        injection h with h2 _
        subst h2
        exact ⟨rfl, Classical.not_not.1 h3, Classical.not_not.1 h1⟩
theorem stays_law {w : List Wn} {l R : List Tr} {t : Tr} (h : addS w l t = (R, 0)) (p : ByteArray) (d : Int) : (ofP p d t = false → teamB l p d = teamB R p d) ∧ teamB R t.p t.d = t.t := by
  obtain ⟨rfl, h1, _⟩ := add_ok h rfl
  exact ⟨fun hf => (stays_other l t p d hf).symm, stays_self h1⟩
end Go.Proofs.Ytleegellkeedhaa
