/-
  Chapter 49: placing fixtures: the first free day, the whole list.
-/
import Derived.Test.YthoocjcbpjdjhaaSpec49
namespace Go.Proofs.Ythoocjcbpjdjhaa
open Go.RowKit

def bumpL (l : List Pf) (g d : Int) : Nat → Int
  | 0 => d
  | n + 1 => if takenL l g d then bumpL l g (d + 1) n else d
def freeL (l : List Pf) (g d : Int) : Int := bumpL l g d l.length

theorem days_le : ∀ (j : Nat) (l : List Pf) (d : Int), (∀ t : Nat, t < j → ∃ p ∈ l, p.d = d + t) → j ≤ l.length := by
  intro j
  induction j with
  | zero => intro l d _; omega
  | succ j ih =>
    intro l d h
    obtain ⟨p, hp, hd⟩ := h j (by omega)
    have h2 := ih (l.erase p) d (fun t ht => by
      obtain ⟨q, hq, hqd⟩ := h t (by omega)
      exact ⟨q, (List.mem_erase_of_ne (by rintro rfl; omega)).2 hq, hqd⟩)
    have h3 := List.length_erase_of_mem hp
    have h4 : 0 < l.length := List.length_pos_of_mem hp
    omega
theorem taken_day {l : List Pf} {g d : Int} (h : takenL l g d = true) : ∃ p ∈ l, p.d = d := by
  obtain ⟨p, hp, hq⟩ := List.any_eq_true.1 h
  simp at hq
  exact ⟨p, hp, hq.2⟩
theorem bump_eq (l : List Pf) (g : Int) : ∀ (n j : Nat) (d : Int), j ≤ n → (∀ t : Nat, t < j → takenL l g (d + t) = true) → takenL l g (d + j) = false → bumpL l g d n = d + j := by
  intro n
  induction n with
  | zero => intro j d hj _ _; obtain rfl : j = 0 := by omega
            simp [bumpL]
  | succ n ih =>
    intro j d hj ht hf
    cases j with
    | zero => simp at hf; simp [bumpL, hf]
    | succ j =>
      have h0 := ht 0 (by omega)
      simp at h0
      simp only [bumpL, h0, if_true]
      rw [ih j (d + 1) (by omega) (fun t h => by have := ht (t + 1) (by omega); rw [show d + 1 + (t : Int) = d + ((t + 1 : Nat) : Int) by omega]; exact this) (by rw [show d + 1 + (j : Int) = d + ((j + 1 : Nat) : Int) by omega]; exact hf)]
      omega
theorem free_eq {l : List Pf} {g d : Int} {j : Nat} (ht : ∀ t : Nat, t < j → takenL l g (d + t) = true) (hf : takenL l g (d + j) = false) : freeL l g d = d + j :=
  bump_eq l g _ j d (days_le j l d fun t h => taken_day (ht t h)) ht hf
theorem free_step {l : List Pf} {g d : Int} {j : Nat} (ht : ∀ t : Nat, t < j → takenL l g (d + t) = true) (h : takenL l g (d + j) = true) : ∀ t : Nat, t < j + 1 → takenL l g (d + t) = true := by
  intro t hlt
  by_cases e : t = j
  · rw [e]; exact h
  · exact ht t (by omega)
theorem free_room {l : List Pf} {g d : Int} {j : Nat} (ht : ∀ t : Nat, t < j → takenL l g (d + t) = true) : j ≤ l.length := days_le j l d fun t h => taken_day (ht t h)

def grAt (gr : List Int) (h : Int) : Int := gr.getD h.toNat 0
def dayL (f : Fx) (x y : Int) (gr : List Int) (out : List Pf) : Int := freeL out (grAt gr f.h) (earlyL f y x out)
def placeL (x y : Int) (gr : List Int) : List Fx → List Pf → List Pf × Int
  | [], out => (out, 0)
  | f :: fs, out => if knownL f gr.length then (if 109572 < dayL f x y gr out then ([], 15) else placeL x y gr fs (out ++ [⟨f, dayL f x y gr out, grAt gr f.h⟩])) else ([], 1)
def placeAll (l : List Fx) (x y : Int) (gr : List Int) : List Pf × Int :=
  if seasonL l.length x y gr = 0 then placeL x y gr l [] else ([], seasonL l.length x y gr)

theorem season_ok {n x y : Int} {gr : List Int} (h : seasonL n x y gr = 0) : n ≤ 400 ∧ (gr.length : Int) ≤ 20 ∧ 0 ≤ x ∧ x ≤ 109572 ∧ 0 ≤ y ∧ y ≤ 400 := by
  unfold seasonL at h
  split at h
  · omega
  · split at h
    · omega
    · omega
theorem known_ok {f : Fx} {n : Nat} (h : knownL f n = true) : 0 ≤ f.h ∧ f.h < n ∧ 0 ≤ f.a ∧ f.a < n ∧ f.h ≠ f.a := by
  unfold knownL at h
  simp at h
  omega
end Go.Proofs.Ythoocjcbpjdjhaa
