/-
  Chapter 49: what FixturesMeet counts, as plain functions; and that every round robin meets it (by the kernel, for each n and each kind).
-/
import Derived.Test.YthoocjcbpjdjhaaRounds49
import Derived.Test.YthoocjcbpjdjhaaSpecK49
namespace Go.Proofs.Ythoocjcbpjdjhaa
open Go.RowKit

def lastL (l : List Fx) (t : Int) : Int := l.foldl (fun x f => if playsL f t then f.r else x) (-1)
def metL (l : List Fx) (i j : Int) : Int := (l.filter fun f => f.h == i && f.a == j).length
def leastL (l : List Fx) (k : Nat) : Int := (List.range k).foldl (fun x (i : Nat) => min x (homesL l i)) (homesL l 0)
def mostL (l : List Fx) (k : Nat) : Int := (List.range k).foldl (fun x (i : Nat) => max x (homesL l i)) (homesL l 0)
/-- One pass: the round at hand, the teams that have played in it (bits), the pairs that have met (bits). -/
def fastGo (N : Nat) (d : Bool) (R : Int) : Int → Nat → Nat → List Fx → Option Nat
  | _, _, M, [] => some M
  | r, mask, M, f :: fs =>
    if 0 ≤ f.h ∧ f.h < N ∧ 0 ≤ f.a ∧ f.a < N ∧ f.h ≠ f.a ∧ r ≤ f.r ∧ f.r < R ∧ M.testBit (20 * f.h.toNat + f.a.toNat) = false ∧ (d || !M.testBit (20 * f.a.toNat + f.h.toNat)) = true then
      if f.r = r then
        if mask.testBit f.h.toNat = false ∧ mask.testBit f.a.toNat = false then fastGo N d R r (mask ||| 1 <<< f.h.toNat ||| 1 <<< f.a.toNat) (M ||| 1 <<< (20 * f.h.toNat + f.a.toNat)) fs else none
      else fastGo N d R f.r (1 <<< f.h.toNat ||| 1 <<< f.a.toNat) (M ||| 1 <<< (20 * f.h.toNat + f.a.toNat)) fs
    else none
def pairsB (N : Nat) (d : Bool) (M : Nat) : Bool := (List.range N).all fun i => (List.range i).all fun j => if d then M.testBit (20 * i + j) && M.testBit (20 * j + i) else M.testBit (20 * i + j) != M.testBit (20 * j + i)
def homesB (N : Nat) (d : Bool) (l : List Fx) : Bool := (List.range N).all fun (i : Nat) => if d then homesL l i == (N : Int) - 1 else homesL l i == ((N - 1) / 2 : Nat) || homesL l i == ((N - 1) / 2 + 1 : Nat)
def meetOk (N : Nat) (d : Bool) : Bool :=
  (match fastGo N d (roundsN N d) 0 0 0 (roundsL N d) with | some M => pairsB N d M | none => false) && ((roundsL N d).length : Int) == wantN N d && decide ((roundsL N d).length ≤ 400) && homesB N d (roundsL N d)
theorem meet_1 : (List.range 10).all (fun k => meetOk (k + 2) false && meetOk (k + 2) true) = true := by decide +kernel
theorem meet_2 : (List.range 9).all (fun k => meetOk (k + 12) false) = true := by decide +kernel
theorem meet_3 : (List.range 9).all (fun k => meetOk (k + 12) true) = true := by decide +kernel
theorem last_next {l : List Fx} {k : Nat} {f : Fx} {t : Int} (h : l[k]? = some f) : lastL (l.take (k + 1)) t = if playsL f t then f.r else lastL (l.take k) t := by
  unfold lastL
  rw [take_next h, List.foldl_append]
  rfl
theorem met_next {l : List Fx} {k : Nat} {f : Fx} {i j : Int} (h : l[k]? = some f) : metL (l.take (k + 1)) i j = metL (l.take k) i j + if (f.h == i && f.a == j) = true then 1 else 0 := by
  unfold metL
  rw [take_next h, List.filter_append]
  by_cases e : (f.h == i && f.a == j) = true <;> simp [e]
theorem met_le (l : List Fx) (i j : Int) : 0 ≤ metL l i j ∧ metL l i j ≤ l.length := by
  unfold metL
  exact ⟨by omega, by have := List.length_filter_le (fun f : Fx => f.h == i && f.a == j) l; omega⟩
theorem least_next (l : List Fx) (k : Nat) : leastL l (k + 1) = min (leastL l k) (homesL l k) := by
  unfold leastL
  rw [List.range_succ, List.foldl_append]
  rfl
theorem most_next (l : List Fx) (k : Nat) : mostL l (k + 1) = max (mostL l k) (homesL l k) := by
  unfold mostL
  rw [List.range_succ, List.foldl_append]
  rfl

theorem bit_or (M p q : Nat) : (M ||| 1 <<< p).testBit q = (M.testBit q || decide (p = q)) := by
  rw [Nat.testBit_or, Nat.shiftLeft_eq, Nat.one_mul, Nat.testBit_two_pow]
theorem last_of (l : List Fx) (t : Int) : lastL l t = -1 ∨ ∃ g ∈ l, playsL g t = true ∧ lastL l t = g.r := by
  have key : ∀ (l : List Fx) (x : Int), l.foldl (fun x f => if playsL f t then f.r else x) x = x ∨ ∃ g ∈ l, playsL g t = true ∧ l.foldl (fun x f => if playsL f t then f.r else x) x = g.r := by
    intro l
    induction l with
    | nil => intro x; exact .inl rfl
    | cons g l ih =>
      intro x
      rw [List.foldl_cons]
      by_cases hg : playsL g t = true
      · rw [if_pos hg]
        rcases ih g.r with h | ⟨g', h1, h2, h3⟩
        · exact .inr ⟨g, List.mem_cons_self, hg, h⟩
        · exact .inr ⟨g', List.mem_cons_of_mem _ h1, h2, h3⟩
      · rw [if_neg hg]
        rcases ih x with h | ⟨g', h1, h2, h3⟩
        · exact .inl h
        · exact .inr ⟨g', List.mem_cons_of_mem _ h1, h2, h3⟩
  exact key l (-1)
theorem met_zero {l : List Fx} {i j : Int} (h : metL l i j = 0) : ∀ g ∈ l, (g.h == i && g.a == j) = false := by
  intro g hg
  unfold metL at h
  have h2 : l.filter (fun f => f.h == i && f.a == j) = [] := List.eq_nil_of_length_eq_zero (by omega)
  have := List.filter_eq_nil_iff.1 h2 g hg
  simpa using this

structure Inv (N : Nat) (r : Int) (mask M : Nat) (pre : List Fx) : Prop where
  pos : 0 ≤ r
  le : ∀ g ∈ pre, g.r ≤ r
  cur : ∀ g ∈ pre, g.r = r → ∀ t : Nat, playsL g t = true → mask.testBit t = true
  met : ∀ i j : Nat, i < 20 → j < 20 → metL pre i j = if M.testBit (20 * i + j) = true then 1 else 0
structure StepOk (N : Nat) (d : Bool) (R r : Int) (mask M : Nat) (f : Fx) : Prop where
  h0 : 0 ≤ f.h
  h1 : f.h < N
  a0 : 0 ≤ f.a
  a1 : f.a < N
  ne : f.h ≠ f.a
  r0 : r ≤ f.r
  r1 : f.r < R
  m1 : M.testBit (20 * f.h.toNat + f.a.toNat) = false
  m2 : (d || !M.testBit (20 * f.a.toNat + f.h.toNat)) = true
  k1 : f.r = r → mask.testBit f.h.toNat = false ∧ mask.testBit f.a.toNat = false
theorem Inv.late {N : Nat} {d : Bool} {R r : Int} {mask M : Nat} {pre : List Fx} {f : Fx} (h : Inv N r mask M pre) (s : StepOk N d R r mask M f) (t : Int) (ht : t = f.h ∨ t = f.a) : lastL pre t < f.r := by
  have h3 := s.r0
  have h4 := h.pos
  rcases last_of pre t with e | ⟨g, g1, g2, e⟩
  · omega
  · have h5 := h.le g g1
    by_cases e2 : g.r = r
    · have h6 : f.r ≠ r := by
        intro e3
        have h7 := s.k1 e3
        have h8 := s.h0
        have h9 := s.a0
        rcases ht with rfl | rfl
        · have := h.cur g g1 e2 f.h.toNat (by rw [Int.toNat_of_nonneg h8]; exact g2)
          rw [h7.1] at this; cases this
        · have := h.cur g g1 e2 f.a.toNat (by rw [Int.toNat_of_nonneg h9]; exact g2)
          rw [h7.2] at this; cases this
      omega
    · omega
theorem Inv.fix {N : Nat} {d : Bool} {r : Int} {mask M : Nat} {pre : List Fx} {f : Fx} (hN : N ≤ 20) (h : Inv N r mask M pre) (s : StepOk N d (roundsN N d) r mask M f) : fixL N d pre f = 0 := by
  have h0 := s.h0; have h1 := s.h1; have a0 := s.a0; have a1 := s.a1; have r0 := s.r0; have r1 := s.r1; have p0 := h.pos
  refine fix_fine ?_ s.ne ?_ ?_ ?_
  · unfold wildL; simp only [decide_eq_false_iff_not]; omega
  · unfold lateL
    rw [Option.any_eq_false_iff_get]
    intro hs
    have hm : pre.getLast?.get hs ∈ pre := List.mem_of_getLast? (by simp)
    have := h.le _ hm
    simp only [decide_eq_false_iff_not]; omega
  · rw [List.any_eq_false]
    intro g hg hc
    unfold clashL at hc
    simp only [Bool.and_eq_true, Bool.or_eq_true, beq_iff_eq] at hc
    have h5 := h.le g hg
    have e3 : f.r = r := by omega
    have h7 := s.k1 e3
    rcases hc.2 with h2 | h2
    · have := h.cur g hg (by omega) f.h.toNat (by rw [Int.toNat_of_nonneg h0]; exact h2)
      rw [h7.1] at this; cases this
    · have := h.cur g hg (by omega) f.a.toNat (by rw [Int.toNat_of_nonneg a0]; exact h2)
      rw [h7.2] at this; cases this
  · rw [List.any_eq_false]
    intro g hg hc
    have m1 := h.met f.h.toNat f.a.toNat (by omega) (by omega)
    rw [s.m1, Int.toNat_of_nonneg h0, Int.toNat_of_nonneg a0] at m1
    have z1 := met_zero (by simpa using m1) g hg
    unfold againL at hc
    simp only [Bool.or_eq_true, Bool.and_eq_true, beq_iff_eq, Bool.not_eq_true'] at hc
    rcases hc with ⟨e1, e2⟩ | ⟨hd, e1, e2⟩
    · rw [← e1, ← e2] at z1; simp at z1
    · have m2 := s.m2
      rw [hd] at m2
      simp only [Bool.false_or, Bool.not_eq_true'] at m2
      have m3 := h.met f.a.toNat f.h.toNat (by omega) (by omega)
      rw [m2, Int.toNat_of_nonneg h0, Int.toNat_of_nonneg a0] at m3
      have z2 := met_zero (by simpa using m3) g hg
      rw [← e1, ← e2] at z2; simp at z2
theorem met_snoc (pre : List Fx) (f : Fx) (i j : Int) : metL (pre ++ [f]) i j = metL pre i j + if (f.h == i && f.a == j) = true then 1 else 0 := by
  unfold metL
  rw [List.filter_append]
  by_cases e : (f.h == i && f.a == j) = true <;> simp [e]
theorem Inv.next {N : Nat} {d : Bool} {R r : Int} {mask mask' M : Nat} {pre : List Fx} {f : Fx} (hN : N ≤ 20) (h : Inv N r mask M pre) (s : StepOk N d R r mask M f)
    (hm : ∀ t : Nat, ((f.r = r ∧ mask.testBit t = true) ∨ t = f.h.toNat ∨ t = f.a.toNat) → mask'.testBit t = true) : Inv N f.r mask' (M ||| 1 <<< (20 * f.h.toNat + f.a.toNat)) (pre ++ [f]) := by
  have h0 := s.h0; have h1 := s.h1; have a0 := s.a0; have a1 := s.a1; have r0 := s.r0; have p0 := h.pos
  refine ⟨by omega, ?_, ?_, ?_⟩
  · intro g hg
    rcases List.mem_append.1 hg with hg | hg
    · have := h.le g hg; omega
    · simp at hg; subst hg; omega
  · intro g hg e t ht
    rcases List.mem_append.1 hg with hg | hg
    · have h5 := h.le g hg
      exact hm t (.inl ⟨by omega, h.cur g hg (by omega) t ht⟩)
    · simp at hg
      subst hg
      refine hm t (.inr ?_)
      unfold playsL at ht
      simp only [Bool.or_eq_true, beq_iff_eq] at ht
      omega
  · intro i j hi hj
    rw [met_snoc, h.met i j hi hj, bit_or]
    by_cases e : 20 * f.h.toNat + f.a.toNat = 20 * i + j
    · have e1 : f.h.toNat = i := by omega
      have e2 : f.a.toNat = j := by omega
      have m1 := s.m1
      rw [e] at m1
      rw [m1]
      have e3 : f.h = i := by omega
      have e4 : f.a = j := by omega
      simp [e, e3, e4]
    · have e3 : ¬ (f.h = i ∧ f.a = j) := by omega
      have e4 : (f.h == (i : Int) && f.a == (j : Int)) = false := by
        rw [Bool.eq_false_iff]; simpa using e3
      rw [e4]
      simp [e]
theorem fast_all {N : Nat} {d : Bool} (hN : N ≤ 20) : ∀ (l pre : List Fx) (r : Int) (mask M M' : Nat), Inv N r mask M pre → fastGo N d (roundsN N d) r mask M l = some M' →
    fixFrom N d pre l = 0 ∧ (∀ (k : Nat) (f : Fx), l[k]? = some f → 0 ≤ f.h ∧ f.h < N ∧ 0 ≤ f.a ∧ f.a < N ∧ f.h ≠ f.a ∧ lastL (pre ++ l.take k) f.h < f.r ∧ lastL (pre ++ l.take k) f.a < f.r) ∧
    (∀ i j : Nat, i < 20 → j < 20 → metL (pre ++ l) i j = if M'.testBit (20 * i + j) = true then 1 else 0) := by
  intro l
  induction l with
  | nil =>
    intro pre r mask M M' h hg
    simp only [fastGo, Option.some.injEq] at hg
    subst hg
    exact ⟨rfl, by intro k f hf; simp at hf, by rw [List.append_nil]; exact h.met⟩
  | cons f l ih =>
    intro pre r mask M M' h hg
    have hs : ∃ mask', StepOk N d (roundsN N d) r mask M f ∧ Inv N f.r mask' (M ||| 1 <<< (20 * f.h.toNat + f.a.toNat)) (pre ++ [f]) ∧ fastGo N d (roundsN N d) f.r mask' (M ||| 1 <<< (20 * f.h.toNat + f.a.toNat)) l = some M' := by
      unfold fastGo at hg
      split at hg
      · rename_i hc
        obtain ⟨c1, c2, c3, c4, c5, c6, c7, c8, c9⟩ := hc
        split at hg
        · rename_i he
          split at hg
          · rename_i hk
            have s : StepOk N d (roundsN N d) r mask M f := ⟨c1, c2, c3, c4, c5, c6, c7, c8, c9, fun _ => hk⟩
            refine ⟨_, s, h.next hN s (mask' := mask ||| 1 <<< f.h.toNat ||| 1 <<< f.a.toNat) ?_, by rw [he]; exact hg⟩
            intro t ht
            rw [bit_or, bit_or]
            rcases ht with ⟨_, h2⟩ | h2 | h2
            · rw [h2]; rfl
            · simp [h2]
            · simp [h2]
          · cases hg
        · rename_i he
          have s : StepOk N d (roundsN N d) r mask M f := ⟨c1, c2, c3, c4, c5, c6, c7, c8, c9, fun e => absurd e he⟩
          refine ⟨_, s, h.next hN s (mask' := 1 <<< f.h.toNat ||| 1 <<< f.a.toNat) ?_, hg⟩
          intro t ht
          rw [bit_or, Nat.shiftLeft_eq, Nat.one_mul, Nat.testBit_two_pow]
          rcases ht with ⟨h1, _⟩ | h2 | h2
          · exact absurd h1 he
          · simp [h2]
          · simp [h2]
      · cases hg
    obtain ⟨mask', s, hi, hg2⟩ := hs
    obtain ⟨q1, q2, q3⟩ := ih _ _ _ _ _ hi hg2
    refine ⟨?_, ?_, ?_⟩
    · show (if fixL N d pre f = 0 then _ else _) = 0
      rw [if_pos (h.fix hN s)]
      exact q1
    · intro k g hk
      cases k with
      | zero =>
        simp at hk
        subst hk
        rw [List.take_zero, List.append_nil]
        exact ⟨s.h0, s.h1, s.a0, s.a1, s.ne, h.late s _ (.inl rfl), h.late s _ (.inr rfl)⟩
      | succ k =>
        simp at hk
        have := q2 k g hk
        rw [List.append_assoc] at this
        exact this
    · rw [List.append_assoc] at q3
      exact q3
theorem inv0 (N : Nat) : Inv N 0 0 0 [] := ⟨by omega, by simp, by simp, by intro i j _ _; simp [metL]⟩

theorem meet_all {N : Nat} (d : Bool) (h1 : 2 ≤ N) (h2 : N ≤ 20) : meetOk N d = true := by
  by_cases h : N < 12
  · have := List.all_eq_true.1 meet_1 (N - 2) (List.mem_range.2 (by omega))
    rw [show N - 2 + 2 = N by omega] at this
    rw [Bool.and_eq_true] at this
    cases d
    · exact this.1
    · exact this.2
  · cases d
    · have := List.all_eq_true.1 meet_2 (N - 12) (List.mem_range.2 (by omega))
      rw [show N - 12 + 12 = N by omega] at this
      exact this
    · have := List.all_eq_true.1 meet_3 (N - 12) (List.mem_range.2 (by omega))
      rw [show N - 12 + 12 = N by omega] at this
      exact this
theorem least_ge {l : List Fx} {m : Int} : ∀ {k : Nat}, 1 ≤ k → (∀ i : Nat, i < k → m ≤ homesL l i) → m ≤ leastL l k := by
  intro k hk h
  have key : ∀ k, (∀ i : Nat, i < k → m ≤ homesL l i) → m ≤ homesL l 0 → m ≤ leastL l k := by
    intro k
    induction k with
    | zero => intro _ h; exact h
    | succ k ih => intro h h0; rw [least_next]; have := ih (fun i hi => h i (by omega)) h0; have := h k (by omega); omega
  exact key k h (h 0 (by omega))
theorem most_le {l : List Fx} {m : Int} : ∀ {k : Nat}, 1 ≤ k → (∀ i : Nat, i < k → homesL l i ≤ m) → mostL l k ≤ m := by
  intro k hk h
  have key : ∀ k, (∀ i : Nat, i < k → homesL l i ≤ m) → homesL l 0 ≤ m → mostL l k ≤ m := by
    intro k
    induction k with
    | zero => intro _ h; exact h
    | succ k ih => intro h h0; rw [most_next]; have := ih (fun i hi => h i (by omega)) h0; have := h k (by omega); omega
  exact key k h (h 0 (by omega))
theorem least_le_most (l : List Fx) (k : Nat) : leastL l k ≤ mostL l k := by
  induction k with
  | zero => exact Int.le_refl _
  | succ k ih => rw [least_next, most_next]; omega

/-- What the walk wants of a round robin. -/
structure Meets (N : Nat) (d : Bool) (l : List Fx) : Prop where
  chk : checkL l N d = 0
  len : l.length ≤ 400
  step : ∀ (k : Nat) (f : Fx), l[k]? = some f → 0 ≤ f.h ∧ f.h < N ∧ 0 ≤ f.a ∧ f.a < N ∧ f.h ≠ f.a ∧ lastL (l.take k) f.h < f.r ∧ lastL (l.take k) f.a < f.r
  pair : ∀ i j : Nat, i < N → j < i → if d then metL l i j = 1 ∧ metL l j i = 1 else metL l i j + metL l j i = 1
  bal : mostL l N - leastL l N ≤ 1
  even : d = true → mostL l N = leastL l N
theorem meets {N : Nat} (d : Bool) (h1 : 2 ≤ N) (h2 : N ≤ 20) : Meets N d (roundsL N d) := by
  have h := meet_all d h1 h2
  unfold meetOk at h
  simp only [Bool.and_eq_true, decide_eq_true_eq, beq_iff_eq] at h
  obtain ⟨⟨⟨a1, a2⟩, a3⟩, a4⟩ := h
  split at a1
  rotate_left
  · cases a1
  rename_i M hM
  obtain ⟨q1, q2, q3⟩ := fast_all h2 _ _ _ _ _ _ (inv0 N) hM
  simp only [List.nil_append] at q2 q3
  refine ⟨?_, a3, q2, ?_, ?_, ?_⟩
  · unfold checkL
    rw [if_neg (by omega), if_neg (by omega), if_neg (by rw [q1]; simp), if_neg (by rw [a2]; simp)]
  · intro i j hi hj
    have := List.all_eq_true.1 (List.all_eq_true.1 a1 i (List.mem_range.2 hi)) j (List.mem_range.2 hj)
    rw [q3 i j (by omega) (by omega), q3 j i (by omega) (by omega)]
    cases d
    · simp only [Bool.false_eq_true, if_false, bne_iff_ne] at this ⊢
      cases e1 : M.testBit (20 * i + j) <;> cases e2 : M.testBit (20 * j + i) <;> simp [e1, e2] at this ⊢
    · simp only [if_true, Bool.and_eq_true] at this ⊢
      rw [this.1, this.2]; simp
  · cases d
    · have hh : ∀ i : Nat, i < N → (((N - 1) / 2 : Nat) : Int) ≤ homesL (roundsL N false) i ∧ homesL (roundsL N false) i ≤ ((N - 1) / 2 : Nat) + 1 := by
        intro i hi
        have := List.all_eq_true.1 a4 i (List.mem_range.2 hi)
        simp only [Bool.false_eq_true, if_false, Bool.or_eq_true, beq_iff_eq] at this
        omega
      have g1 := least_ge (k := N) (by omega) (fun i hi => (hh i hi).1)
      have g2 := most_le (k := N) (by omega) (fun i hi => (hh i hi).2)
      omega
    · have hh : ∀ i : Nat, i < N → homesL (roundsL N true) i = (N : Int) - 1 := by
        intro i hi
        have := List.all_eq_true.1 a4 i (List.mem_range.2 hi)
        simpa using this
      have g1 := least_ge (k := N) (by omega) (fun i hi => by rw [hh i hi]; exact Int.le_refl _)
      have g2 := most_le (k := N) (by omega) (fun i hi => by rw [hh i hi]; exact Int.le_refl _)
      omega
  · intro hd
    subst hd
    have hh : ∀ i : Nat, i < N → homesL (roundsL N true) i = (N : Int) - 1 := by
      intro i hi
      have := List.all_eq_true.1 a4 i (List.mem_range.2 hi)
      simpa using this
    have g1 := least_ge (k := N) (by omega) (fun i hi => by rw [hh i hi]; exact Int.le_refl _)
    have g2 := most_le (k := N) (by omega) (fun i hi => by rw [hh i hi]; exact Int.le_refl _)
    have g3 := least_le_most (roundsL N true) N
    omega
end Go.Proofs.Ythoocjcbpjdjhaa
