/-
  Numbers in decimal, in plain Lean: what text.Number and scorebookref03.Number compute over a list of bytes; what strconv's plain functions answer there. No program in sight.
-/
import Derived.Lib.ParseIntB
import Derived.Lib.SlTrimSet
import Derived.Lib.Strings
import Derived.Lib.IndexMore
import Derived.Lib.ItoaNum
set_option linter.unusedSimpArgs false
set_option linter.unusedVariables false
namespace Go.Proofs.YtdbiihfoafoljaaGreatDoor

def digB (c : UInt8) : Bool := decide (48 ≤ c.toNat) && decide (c.toNat ≤ 57)
def digs10 : List UInt8 := [48, 49, 50, 51, 52, 53, 54, 55, 56, 57]
theorem digs10_all : ((List.range 256).all fun n => digs10.contains (UInt8.ofNat n) == digB (UInt8.ofNat n)) = true := by decide +kernel
theorem digs10_contains (c : UInt8) : digs10.contains c = digB c := by
  have h := List.all_eq_true.1 digs10_all c.toNat (List.mem_range.2 c.toNat_lt)
  rw [UInt8.ofNat_toNat] at h
  exact eq_of_beq h

def bodyL (l : List UInt8) : List UInt8 := if l.head? = some 45 then l.tail else l
theorem trimPrefix_minus (l : List UInt8) : Lib.trimPrefix l [45] = bodyL l := by
  unfold Lib.trimPrefix Lib.hasPrefix bodyL
  cases l with
  | nil => simp
  | cons c r =>
    by_cases h : c = 45
    · subst h; simp
    · have h' : ¬ (45 : UInt8) = c := fun e => h e.symm
      simp [List.isPrefixOf, h, h']
theorem dropWhile_nil (p : UInt8 → Bool) : ∀ l : List UInt8, l.dropWhile p = [] ↔ l.all p = true
  | [] => by simp
  | c :: r => by
    rw [List.dropWhile_cons]
    cases h : p c with
    | false => simp [h]
    | true => simp only [if_true, List.all_cons, h, Bool.true_and]; exact dropWhile_nil p r
theorem trimS_nil (l cs : List UInt8) : Lib.trimS l cs = [] ↔ l.all (cs.contains ·) = true := by
  unfold Lib.trimS Lib.trimLeftS Lib.trimRightS
  rw [dropWhile_nil]
  constructor
  · intro h
    rw [List.all_reverse] at h
    have h2 : ∀ (m : List UInt8), (m.dropWhile (cs.contains ·)).all (cs.contains ·) = true → m.all (cs.contains ·) = true := by
      intro m
      induction m with
      | nil => simp
      | cons c r ih =>
        rw [List.dropWhile_cons]
        cases h : cs.contains c with
        | false => simp only [Bool.false_eq_true, if_false]; exact id
        | true => simp only [if_true, List.all_cons, h, Bool.true_and]; exact ih
    have := h2 _ h
    rwa [List.all_reverse] at this
  · intro h
    rw [List.all_reverse, (dropWhile_nil _ _).2 (by rwa [List.all_reverse])]
    rfl
theorem trimS_digs (l : List UInt8) : Lib.trimS l digs10 = [] ↔ l.all digB = true := by
  rw [trimS_nil]
  have : (fun c => digs10.contains c) = digB := funext digs10_contains
  rw [this]

/-- A decimal. -/
def numOk (l : List UInt8) : Bool := !(bodyL l).isEmpty && !((bodyL l).head? == some 48 && !(l == [48])) && (bodyL l).all digB

/-- The number of a list of digits. -/
def natD (acc : Nat) : List UInt8 → Nat
  | [] => acc
  | c :: r => natD (acc * 10 + (c.toNat - 48)) r
def valD (l : List UInt8) : Int := if l.head? = some 45 then -(natD 0 (bodyL l) : Int) else natD 0 (bodyL l)
theorem natD_le : ∀ (r : List UInt8) (acc : Nat), acc ≤ natD acc r
  | [], _ => Nat.le_refl _
  | c :: r, acc => by unfold natD; exact Nat.le_trans (by omega) (natD_le r _)

theorem parseUintM_digs : ∀ (r : List UInt8) (acc : Nat), r.all digB = true → acc ≤ 2 ^ 64 - 1 →
    Lib.parseUintM (2 ^ 64 - 1) acc r = if natD acc r ≤ 2 ^ 64 - 1 then .ok (natD acc r) else .range
  | [], acc, _, h => by unfold Lib.parseUintM natD; rw [if_pos h]
  | c :: r, acc, hd, h => by
    rw [List.all_cons, Bool.and_eq_true] at hd
    obtain ⟨hc, hr⟩ := hd
    unfold digB at hc
    simp only [Bool.and_eq_true, decide_eq_true_eq] at hc
    unfold Lib.parseUintM natD
    rw [if_pos hc]
    have hm := natD_le r (acc * 10 + (c.toNat - 48))
    by_cases h1 : 1844674407370955162 ≤ acc
    · rw [if_pos h1, if_neg (by omega)]
    · rw [if_neg h1]
      by_cases h2 : 2 ^ 64 - 1 < acc * 10 + (c.toNat - 48)
      · rw [if_pos h2, if_neg (by omega)]
      · rw [if_neg h2, parseUintM_digs r _ hr (by omega)]
theorem parseIntB_num {l : List UInt8} (h : numOk l = true) :
    Lib.parseIntB 64 l = if -9223372036854775808 ≤ valD l ∧ valD l ≤ 9223372036854775807 then .ok (valD l) else .range := by
  unfold numOk at h
  simp only [Bool.and_eq_true, Bool.not_eq_true'] at h
  obtain ⟨⟨hne, _⟩, hall⟩ := h
  cases l with
  | nil => simp [bodyL] at hne
  | cons c r =>
    unfold Lib.parseIntB
    by_cases hc : c = 45
    · subst hc
      have hb : bodyL (45 :: r) = r := by simp [bodyL]
      rw [hb] at hall hne
      have hv : valD (45 :: r) = -(natD 0 r : Int) := by simp [valD, hb]
      have hr : r ≠ [] := by rintro rfl; simp at hne
      simp only [UInt8.reduceToNat, or_true, if_true, hv]
      unfold Lib.parseUintB
      rw [if_neg hr, parseUintM_digs r 0 hall (by omega)]
      by_cases h1 : natD 0 r ≤ 2 ^ 64 - 1
      · simp only [h1, if_true, not_true_eq_false, false_and, if_false, true_and]
        by_cases h2 : 2 ^ (64 - 1) < natD 0 r
        · rw [if_pos h2, if_neg (by omega)]
        · rw [if_neg h2, if_pos (by omega)]
      · simp only [h1, if_false]
        rw [if_neg (by omega)]
    · have hb : bodyL (c :: r) = c :: r := by simp [bodyL, hc]
      rw [hb] at hall
      have hv : valD (c :: r) = (natD 0 (c :: r) : Int) := by simp [valD, hb, hc]
      have hcd : digB c = true := by rw [List.all_cons, Bool.and_eq_true] at hall; exact hall.1
      unfold digB at hcd
      simp only [Bool.and_eq_true, decide_eq_true_eq] at hcd
      have n43 : ¬ c.toNat = 43 := by omega
      have n45 : ¬ c.toNat = 45 := by omega
      simp only [n43, n45, or_self, if_false, hv]
      unfold Lib.parseUintB
      rw [if_neg (by simp), parseUintM_digs _ 0 hall (by omega)]
      by_cases h1 : natD 0 (c :: r) ≤ 2 ^ 64 - 1
      · simp only [h1, if_true, not_false_eq_true, true_and, false_and, if_false]
        by_cases h2 : 2 ^ (64 - 1) ≤ natD 0 (c :: r)
        · rw [if_pos h2, if_neg (by omega)]
        · rw [if_neg h2, if_pos (by omega)]
      · simp only [h1, if_false]
        rw [if_neg (by omega)]

/-- What Number answers: the number and the error's number (0, 2: out of range, 4: no decimal). -/
def numP (l : List UInt8) (lo hi : Int) : Int × Int :=
  if numOk l then (if valD l < lo ∨ hi < valD l then (0, 2) else (valD l, 0)) else (0, 4)

/-! The reference's loop. -/
def refStep (p : Int × Bool) (c : UInt8) : Int × Bool := ((p.1 * 10 + ((c.toNat : Int) - 48)) % 18446744073709551616, p.2 || decide (1152921504606846976 < p.1))
theorem refLoop : ∀ (r : List UInt8) (N : Nat) (n : Int) (big : Bool), r.all digB = true → (big = false → n = N ∧ N ≤ 11529215046068469769) → (big = true → 9223372036854775808 < N) →
    ((r.foldl refStep (n, big)).2 = false → (r.foldl refStep (n, big)).1 = natD N r ∧ natD N r ≤ 11529215046068469769) ∧ ((r.foldl refStep (n, big)).2 = true → 9223372036854775808 < natD N r)
  | [], N, n, big, _, h1, h2 => ⟨h1, h2⟩
  | c :: r, N, n, big, hd, h1, h2 => by
    rw [List.all_cons, Bool.and_eq_true] at hd
    obtain ⟨hc, hr⟩ := hd
    unfold digB at hc
    simp only [Bool.and_eq_true, decide_eq_true_eq] at hc
    rw [List.foldl_cons]
    unfold natD
    refine refLoop r _ _ _ hr ?_ ?_
    · intro hb
      simp only [Bool.or_eq_false_iff, decide_eq_false_iff_not] at hb
      obtain ⟨rfl, hle⟩ := h1 hb.1
      refine ⟨?_, by omega⟩
      simp only
      rw [Int.emod_eq_of_lt (by omega) (by omega)]
      omega
    · intro hb
      simp only [Bool.or_eq_true, decide_eq_true_eq] at hb
      cases big with
      | true => have := h2 rfl; omega
      | false =>
        obtain ⟨rfl, hle⟩ := h1 rfl
        rcases hb with hb | hb
        · cases hb
        · omega
end Go.Proofs.YtdbiihfoafoljaaGreatDoor
