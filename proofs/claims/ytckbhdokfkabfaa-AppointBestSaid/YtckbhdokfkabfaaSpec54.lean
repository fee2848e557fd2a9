/-
  Chapter 54: plain specification.
-/
import Derived.Test.YtckbhdokfkabfaaName
set_option linter.unusedSimpArgs false
set_option linter.unusedVariables false
namespace Go.Proofs.Ytckbhdokfkabfaa
open Go.RowKit

structure Tr where
  p : ByteArray
  t : ByteArray
  d : Int
structure Wn where
  f : Int
  t : Int
instance : Inhabited Tr := ⟨⟨⟨#[]⟩, ⟨#[]⟩, 0⟩⟩
instance : Inhabited Wn := ⟨⟨0, 0⟩⟩
def trE (z : Tr) : List Value := [.string z.p, .string z.t, .int .i64 z.d]
def wnE (z : Wn) : List Value := [.int .i64 z.f, .int .i64 z.t]
theorem trE_len (z : Tr) : (trE z).length = 3 := rfl
theorem wnE_len (z : Wn) : (wnE z).length = 2 := rfl

/-! Strings -/
theorem less_irrefl : ∀ a : List UInt8, Op.bytesLess a a = false
  | [] => rfl
  | x :: a => by simp [Op.bytesLess, less_irrefl a]
theorem less_total : ∀ a b : List UInt8, Op.bytesLess a b = false → a ≠ b → Op.bytesLess b a = true
  | [], [], _, h => absurd rfl h
  | [], _ :: _, h, _ => by simp [Op.bytesLess] at h
  | _ :: _, [], _, _ => rfl
  | x :: a, y :: b, h, hn => by
    simp only [Op.bytesLess, Bool.or_eq_false_iff, Bool.and_eq_false_iff, Bool.or_eq_true, Bool.and_eq_true, decide_eq_true_eq, decide_eq_false_iff_not, beq_iff_eq, beq_eq_false_iff_ne] at h ⊢
    by_cases hxy : x = y
    · subst hxy
      right
      refine ⟨rfl, less_total a b (h.2.resolve_left (fun e => e rfl)) (fun e => hn (by rw [e]))⟩
    · left
      have h1 : ¬ x.toNat < y.toNat := h.1
      have h2 : x.toNat ≠ y.toNat := fun e => hxy (UInt8.toNat_inj.1 e)
      show y.toNat < x.toNat
      omega
theorem less_asymm : ∀ a b : List UInt8, Op.bytesLess a b = true → Op.bytesLess b a = false
  | [], [], h => by cases h
  | [], _ :: _, _ => rfl
  | _ :: _, [], h => by simp [Op.bytesLess] at h
  | x :: a, y :: b, h => by
    simp only [Op.bytesLess, Bool.or_eq_false_iff, Bool.and_eq_false_iff, Bool.or_eq_true, Bool.and_eq_true, decide_eq_true_eq, decide_eq_false_iff_not, beq_iff_eq, beq_eq_false_iff_ne] at h ⊢
    rcases h with h | ⟨rfl, h⟩
    · have h1 : x.toNat < y.toNat := h
      refine ⟨fun h2 => ?_, .inl fun e => ?_⟩
      · have h3 : y.toNat < x.toNat := h2
        omega
      · subst e; omega
    · exact ⟨fun h2 => by have h3 : x.toNat < x.toNat := h2; omega, .inr (less_asymm a b h)⟩
theorem leq_eq (a b : List UInt8) : (Op.bytesLess b a || b == a) = !Op.bytesLess a b := by
  cases h : Op.bytesLess a b
  · by_cases e : b = a
    · subst e; simp
    · simp [less_total a b h (fun e2 => e e2.symm)]
  · have e : b ≠ a := fun e => by subst e; rw [less_irrefl] at h; cases h
    simp [less_asymm a b h, e]

def seq (a b : ByteArray) : Bool := a.data.toList == b.data.toList
def slt (a b : ByteArray) : Bool := Op.bytesLess a.data.toList b.data.toList
def isE (a : ByteArray) : Bool := a.data.toList.isEmpty
theorem seq_to (a b : ByteArray) : (a.toList == b.toList) = seq a b := by rw [ByteArray.toList_eq, ByteArray.toList_eq]; rfl
theorem slt_to (a b : ByteArray) : Op.bytesLess a.toList b.toList = slt a b := by rw [ByteArray.toList_eq, ByteArray.toList_eq]; rfl
theorem isE_to (a : ByteArray) : a.toList.isEmpty = isE a := by rw [ByteArray.toList_eq]; rfl
theorem seq_eq {a b : ByteArray} : seq a b = true ↔ a = b := by
  unfold seq
  rw [beq_iff_eq]
  constructor
  · intro h
    cases a; cases b
    simp only [ByteArray.mk.injEq]
    exact Array.toList_inj.1 h
  · rintro rfl; rfl
theorem isE_eq {a : ByteArray} : isE a = true ↔ a = ⟨#[]⟩ := by
  rw [← seq_eq]
  unfold isE seq
  cases a.data.toList <;> simp
/-! Days, windows -/
def isDayB (n : Int) : Bool := decide (0 ≤ n) && decide (n ≤ 1000000)
def befW (w : List Wn) (i : Nat) (x : Wn) : Bool := match i with
  | 0 => false
  | j + 1 => match w[j]? with
    | some y => decide (x.f ≤ y.t)
    | none => false
def wErr (w : List Wn) (i : Nat) : Int := match w[i]? with
  | some x => if !isDayB x.f || !isDayB x.t then 2 else if decide (x.t < x.f) || befW w i x then 8 else 0
  | none => 0
/-- The first place from 0 below n with f not 0. -/
def scan (f : Nat → Int) : Nat → Option Nat
  | 0 => none
  | n + 1 => match scan f n with
    | some i => some i
    | none => if f n = 0 then none else some n
theorem scan_none {f : Nat → Int} : ∀ {n : Nat}, (∀ j, j < n → f j = 0) → scan f n = none
  | 0, _ => rfl
  | n + 1, h => by
    unfold scan
    rw [scan_none fun j hj => h j (by omega), if_pos (h n (by omega))]
theorem scan_some {f : Nat → Int} {k : Nat} (h : ∀ j, j < k → f j = 0) (hk : f k ≠ 0) : ∀ {n : Nat}, k < n → scan f n = some k
  | 0, hn => by omega
  | n + 1, hn => by
    unfold scan
    by_cases e : k = n
    · subst e
      rw [scan_none h]
      simp [hk]
    · rw [scan_some h hk (n := n) (by omega)]
theorem scan_inv {f : Nat → Int} : ∀ {n : Nat}, scan f n = none → ∀ j, j < n → f j = 0
  | 0, _, j, hj => by omega
  | n + 1, h, j, hj => by
    unfold scan at h
    split at h
    · cases h
    · next h1 =>
      split at h
      · next h2 =>
        by_cases e : j = n
        · subst e; exact h2
        · exact scan_inv h1 j (by omega)
      · cases h
theorem scan_ne {f : Nat → Int} {k : Nat} : ∀ {n : Nat}, scan f n = some k → f k ≠ 0
  | 0, h => by cases h
  | n + 1, h => by
    unfold scan at h
    split at h
    · next h1 => injection h with h; subst h; exact scan_ne h1
    · split at h
      · cases h
      · next h2 => injection h with h; subst h; exact h2
def resW (f : Nat → Int) : Option Nat → Int
  | some i => f i
  | none => 0
def ckW (w : List Wn) : Int := if 32 < w.length then 9 else resW (wErr w) (scan (wErr w) w.length)

/-! Entries -/
def bef (l : List Tr) (p : ByteArray) : Nat → ByteArray
  | 0 => ⟨#[]⟩
  | k + 1 => match l[k]? with
    | some z => if seq z.p p then z.t else bef l p k
    | none => bef l p k
def openW (w : List Wn) (d : Int) : Bool := w.any fun x => decide (x.f ≤ d) && decide (d ≤ x.t)
/-- Not before: the order of entries. -/
def badO (a b : Tr) : Bool := decide (b.d < a.d) || (decide (b.d = a.d) && !slt a.p b.p)
def befT (l : List Tr) (i : Nat) (x : Tr) : Bool := match i with
  | 0 => false
  | j + 1 => match l[j]? with
    | some y => badO y x
    | none => false
def err2 (w : List Wn) (z : Tr) (b : ByteArray) : Int :=
  if seq z.t b then 1
  else if !isE z.t && (!isE b && !openW w z.d) then 15 else 0
def err1 (l : List Tr) (i : Nat) (z : Tr) : Int :=
  if !nameB z.p || (!isE z.t && !nameB z.t) then 5
  else if !isDayB z.d then 2
  else if befT l i z then 8 else 0
def tErr (w : List Wn) (l : List Tr) (i : Nat) : Int := match l[i]? with
  | some z => if err1 l i z = 0 then err2 w z (bef l z.p i) else err1 l i z
  | none => 0
def resT (f : Nat → Int) : Option Nat → Int × Int
  | some i => (i, f i)
  | none => (-1, 0)
def ckT (w : List Wn) (l : List Tr) : Int × Int :=
  if ckW w ≠ 0 then (-1, ckW w) else if 2000 < l.length then (-1, 9) else resT (tErr w l) (scan (tErr w l) l.length)

/-! Teams -/
/-- The place of the last entry of a player up to a day, among the first n. -/
def lastK (l : List Tr) (p : ByteArray) (d : Int) : Nat → Option Nat
  | 0 => none
  | k + 1 => match l[k]? with
    | some z => if seq z.p p && decide (z.d ≤ d) then some k else lastK l p d k
    | none => lastK l p d k
def idxI : Option Nat → Int
  | some k => k
  | none => -1
def teamAt (l : List Tr) : Option Nat → ByteArray
  | some k => match l[k]? with
    | some z => z.t
    | none => ⟨#[]⟩
  | none => ⟨#[]⟩
def teamB (l : List Tr) (p : ByteArray) (d : Int) : ByteArray := teamAt l (lastK l p d l.length)
def eligAt (l : List Tr) (t : ByteArray) (d : Int) : Option Nat → Bool
  | some k => match l[k]? with
    | some z => !isE t && seq z.t t && (isE (bef l z.p k) || decide (7 ≤ IntKind.u64.wrap (IntKind.u64.wrap d - IntKind.u64.wrap z.d)))
    | none => false
  | none => false
def eligB (l : List Tr) (p t : ByteArray) (d : Int) : Bool := eligAt l t d (lastK l p d l.length)
/-! Laws -/
theorem lastK_some {l : List Tr} {p : ByteArray} {d : Int} : ∀ {n k : Nat}, lastK l p d n = some k → k < n ∧ ∃ z, l[k]? = some z ∧ z.p = p ∧ z.d ≤ d
  | 0, k, h => by cases h
  | n + 1, k, h => by
    unfold lastK at h
    split at h
    · next z hz =>
      split at h
      · next hc =>
        injection h with h
        subst h
        simp only [Bool.and_eq_true, seq_eq, decide_eq_true_eq] at hc
        exact ⟨by omega, z, hz, hc.1, hc.2⟩
      · obtain ⟨h1, h2⟩ := lastK_some h
        exact ⟨by omega, h2⟩
    · obtain ⟨h1, h2⟩ := lastK_some h
      exact ⟨by omega, h2⟩
theorem ck_day {w : List Wn} {l : List Tr} (h : (ckT w l).2 = 0) {k : Nat} {z : Tr} (hk : l[k]? = some z) : 0 ≤ z.d ∧ z.d ≤ 1000000 := by
  have hkl := (List.getElem?_eq_some_iff.1 hk).1
  unfold ckT at h
  split at h
  · next h1 => exact absurd h h1
  · split at h
    · simp at h
    · have hsc : scan (tErr w l) l.length = none := by
        cases hs : scan (tErr w l) l.length with
        | none => rfl
        | some i =>
          rw [hs] at h
          exact absurd h (scan_ne hs)
      have h2 := scan_inv hsc k hkl
      unfold tErr at h2
      rw [hk] at h2
      simp only at h2
      have h3 : err1 l k z = 0 := by
        by_cases e : err1 l k z = 0
        · exact e
        · rw [if_neg e] at h2; exact absurd h2 e
      unfold err1 at h3
      split at h3
      · cases h3
      · split at h3
        · cases h3
        · next h5 =>
          simp [isDayB] at h5
          exact h5
theorem teamAt_some {l : List Tr} {k : Nat} {z : Tr} (hz : l[k]? = some z) : teamAt l (some k) = z.t := by simp [teamAt, hz]
theorem eligAt_some {l : List Tr} {k : Nat} {z : Tr} {t : ByteArray} {d : Int} (hz : l[k]? = some z) : eligAt l t d (some k) = (!isE t && seq z.t t && (isE (bef l z.p k) || decide (7 ≤ IntKind.u64.wrap (IntKind.u64.wrap d - IntKind.u64.wrap z.d)))) := by simp [eligAt, hz]
theorem settle {w : List Wn} {l : List Tr} {p : ByteArray} {d : Int} (h : (ckT w l).2 = 0) (hd : 0 ≤ d ∧ d ≤ 9223372036854775807) (hno : ∀ (k : Nat) (z : Tr), l[k]? = some z → ¬ (seq z.p p = true ∧ d - 7 < z.d ∧ z.d ≤ d)) (hne : isE (teamB l p d) = false) :
    eligB l p (teamB l p d) d = true := by
  unfold eligB teamB at *
  cases hk : lastK l p d l.length with
  | none => rw [hk] at hne; cases hne
  | some k =>
    obtain ⟨hkl, z, hz, hp, hzd⟩ := lastK_some hk
    have hday := ck_day h hz
    have hn := hno k z hz
    have h7 : z.d ≤ d - 7 := by
      by_cases e : d - 7 < z.d
      · exact absurd ⟨seq_eq.2 hp, e, hzd⟩ hn
      · omega
    rw [hk, teamAt_some hz] at hne
    rw [eligAt_some hz, teamAt_some hz]
    simp only [hne, seq_eq.2 rfl, Bool.not_false, Bool.true_and, Bool.or_eq_true, decide_eq_true_eq]
    right
    simp [IntKind.wrap, IntKind.bits, IntKind.signed]
    omega
theorem elig_not {l : List Tr} {p t : ByteArray} {d : Int} (h : seq t (teamB l p d) = false) : eligB l p t d = false := by
  unfold eligB teamB at *
  cases hk : lastK l p d l.length with
  | none => rfl
  | some k =>
    obtain ⟨hkl, z, hz, hp, hzd⟩ := lastK_some hk
    rw [hk, teamAt_some hz] at h
    rw [eligAt_some hz]
    have h2 : seq z.t t = false := by
      cases e : seq z.t t
      · rfl
      · rw [seq_eq] at e
        rw [← e, seq_eq.2 rfl] at h
        cases h
    simp [h2]
end Go.Proofs.Ytckbhdokfkabfaa
