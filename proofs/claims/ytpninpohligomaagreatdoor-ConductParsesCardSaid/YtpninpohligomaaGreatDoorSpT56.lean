/-
  Chapter 56: texts of books, in plain Lean.
-/
import Derived.Test.YtpninpohligomaaGreatDoorPlain56
import Derived.Test.YtpninpohligomaaGreatDoorOvP
set_option linter.unusedSimpArgs false
set_option linter.unusedVariables false
namespace Go.Proofs.YtpninpohligomaaGreatDoor
open Go.RowKit
def dcB (n : Int) : List UInt8 := Lib.decDigits n.toNat
def dcA (n : Int) : ByteArray := ⟨(dcB n).toArray⟩
/-- A row of the text. -/
def rowC (z : Of) : List UInt8 := dcB z.id ++ 32 :: (z.p.data.toList ++ 32 :: (dcB z.d ++ 32 :: (dcB z.n ++ [10])))
def txtC (l : List Of) : List UInt8 := l.flatMap rowC
def TxtC (l : List Of) : List UInt8 × Int := if ckO l ≠ 0 then ([], ckO l) else (txtC l, 0)
theorem txtC_take {l : List Of} {k : Nat} {z : Of} (h : l[k]? = some z) : txtC (l.take (k + 1)) = txtC (l.take k) ++ rowC z := by
  unfold txtC
  rw [List.take_add_one, h, List.flatMap_append]
  simp
theorem decDigits_len : ∀ (u : Nat), (Lib.decDigits u).length ≤ u + 1 := by
  intro u
  induction u using Nat.strongRecOn with
  | ind u ih =>
    by_cases h : u < 10
    · rw [decDigits_small h]; simp
    · rw [decDigits_big h, List.length_append]
      have := ih (u / 10) (by omega)
      simp; omega
theorem decDigits_len20 {u : Nat} (h : u < 10000000000000) : (Lib.decDigits u).length ≤ 13 := by
  have key : ∀ (n : Nat) (u : Nat), u < 10 ^ (n + 1) → (Lib.decDigits u).length ≤ n + 1 := by
    intro n
    induction n with
    | zero => intro u hu; rw [decDigits_small (by simpa using hu)]; simp
    | succ n ih =>
      intro u hu
      by_cases h : u < 10
      · rw [decDigits_small h]; simp
      · rw [decDigits_big h, List.length_append]
        have := ih (u / 10) (by rw [Nat.pow_succ] at hu; omega)
        simp; omega
  exact key 12 u h
theorem dcB_len {n : Int} (h : n ≤ 1099511627776) : (dcB n).length ≤ 13 := decDigits_len20 (by omega)
theorem rowC_len {z : Of} (h : okO z) : (rowC z).length ≤ 64 := by
  obtain ⟨⟨h1, h2⟩, h3, h4, h5, h6⟩ := h
  have hd : z.d ≤ 1000000 := by unfold isDayB at h4; simp at h4; omega
  have hp : z.p.data.toList.length ≤ 16 := by
    have : z.p.size ≤ 16 := by
      unfold nameB at h3
      simp at h3
      omega
    simpa using this
  have a := dcB_len (n := z.id) h2
  have b := dcB_len (n := z.d) (by omega)
  have c := dcB_len (n := z.n) (by omega)
  unfold rowC
  simp only [List.length_append, List.length_cons, List.length_nil]
  omega
theorem txtC_len : ∀ {l : List Of}, (∀ z ∈ l, okO z) → (txtC l).length ≤ 64 * l.length := by
  intro l
  induction l with
  | nil => intro _; simp [txtC]
  | cons z r ih =>
    intro h
    have h1 := rowC_len (h z List.mem_cons_self)
    have h2 := ih (fun x hx => h x (List.mem_cons_of_mem _ hx))
    unfold txtC at h2 ⊢
    rw [List.flatMap_cons, List.length_append, List.length_cons]
    omega
theorem okO_of {l : List Of} (h : ckO l = 0) : l.length ≤ 2000 ∧ ∀ z ∈ l, okO z := by
  obtain ⟨h1, h2⟩ := ckO_inv h
  refine ⟨h1, fun z hz => ?_⟩
  obtain ⟨i, hi, rfl⟩ := List.getElem_of_mem hz
  have h3 := h2 i _ (List.getElem?_eq_getElem hi)
  generalize l[i] = z at h3
  unfold errO at h3
  split at h3
  · cases h3
  split at h3
  · cases h3
  split at h3
  · cases h3
  rename_i a b c
  simp at a b c
  exact ⟨by omega, b, by simpa using c.1, by omega⟩
theorem rowC_cat (z : Of) : (((((((dcA z.id ++ (⟨#[32]⟩ : ByteArray)) ++ z.p) ++ (⟨#[32]⟩ : ByteArray)) ++ dcA z.d) ++ (⟨#[32]⟩ : ByteArray)) ++ dcA z.n) ++ (⟨#[10]⟩ : ByteArray)).data.toList = rowC z := by
  simp [rowC, dcA]
end Go.Proofs.YtpninpohligomaaGreatDoor
