/-
  Chapter 49: the plain law of placed fixtures: what placing gives is accepted, and keeps the rest.
-/
import Derived.Test.YthoocjcbpjdjhaaSpecC49
namespace Go.Proofs.Ythoocjcbpjdjhaa
open Go.RowKit

theorem bump_spec (l : List Pf) (g : Int) : ∀ (n : Nat) (d : Int), ∃ j : Nat, j ≤ n ∧ bumpL l g d n = d + j ∧ (∀ t : Nat, t < j → takenL l g (d + t) = true) ∧ (j = n ∨ takenL l g (d + j) = false) := by
  intro n
  induction n with
  | zero => intro d; exact ⟨0, by omega, by simp [bumpL], fun t h => by omega, .inl rfl⟩
  | succ n ih =>
    intro d
    by_cases h : takenL l g d = true
    · obtain ⟨j, h1, h2, h3, h4⟩ := ih (d + 1)
      refine ⟨j + 1, by omega, by simp only [bumpL, h, if_true]; rw [h2]; omega, fun t ht => ?_, ?_⟩
      · cases t with
        | zero => simpa using h
        | succ t => have := h3 t (by omega); rw [show d + ((t + 1 : Nat) : Int) = d + 1 + t by omega]; exact this
      · rcases h4 with h4 | h4
        · exact .inl (by omega)
        · exact .inr (by rw [show d + ((j + 1 : Nat) : Int) = d + 1 + j by omega]; exact h4)
    · have h : takenL l g d = false := by simpa using h
      exact ⟨0, by omega, by simp [bumpL, h], fun t ht => by omega, .inr (by simpa using h)⟩
theorem free_ok (l : List Pf) (g d : Int) : d ≤ freeL l g d ∧ takenL l g (freeL l g d) = false := by
  obtain ⟨j, h1, h2, h3, h4⟩ := bump_spec l g l.length d
  unfold freeL
  rw [h2]
  refine ⟨by omega, ?_⟩
  rcases h4 with h4 | h4
  · cases h9 : takenL l g (d + j) with
    | false => rfl
    | true => have := days_le (j + 1) l d (fun t ht => taken_day (free_step h3 h9 t ht)); omega
  · exact h4
theorem early_ok (f : Fx) (y : Int) : ∀ (l : List Pf) (x : Int), x ≤ earlyL f y x l ∧ ∀ q ∈ l, (playsL q.f f.h || playsL q.f f.a) = true → q.d + y + 1 ≤ earlyL f y x l := by
  intro l
  induction l with
  | nil => intro x; exact ⟨Int.le_refl _, by simp⟩
  | cons q l ih =>
    intro x
    have h := ih (if playsL q.f f.h || playsL q.f f.a then max x (q.d + y + 1) else x)
    have e : earlyL f y x (q :: l) = earlyL f y (if playsL q.f f.h || playsL q.f f.a then max x (q.d + y + 1) else x) l := rfl
    rw [e]
    refine ⟨?_, fun p hp hh => ?_⟩
    · have := h.1; split at this <;> omega
    · rcases List.mem_cons.1 hp with rfl | hp
      · have := h.1; rw [if_pos hh] at this; rw [if_pos hh]; omega
      · exact h.2 p hp hh

/-- p fits behind the placed ones 'pre'. -/
structure Fits (x y : Int) (gr : List Int) (pre : List Pf) (p : Pf) : Prop where
  known : knownL p.f gr.length = true
  ground : p.g = grAt gr p.f.h
  lo : x ≤ p.d
  hi : p.d ≤ 109572
  free : takenL pre p.g p.d = false
  rest : ∀ q ∈ pre, (playsL q.f p.f.h || playsL q.f p.f.a) = true → q.d + y + 1 ≤ p.d

theorem place_ok (x y : Int) (gr : List Int) : ∀ (fs : List Fx) (out res : List Pf), placeL x y gr fs out = (res, 0) →
    ∃ tl, res = out ++ tl ∧ tl.map Pf.f = fs ∧ ∀ k p, tl[k]? = some p → Fits x y gr (out ++ tl.take k) p := by
  intro fs
  induction fs with
  | nil => intro out res h; injection h with h _; exact ⟨[], by simp [h], rfl, by simp⟩
  | cons f fs ih =>
    intro out res h
    simp only [placeL] at h
    split at h
    · rename_i hk
      split at h
      · injection h with _ h; omega
      · rename_i hd
        obtain ⟨tl, h1, h2, h3⟩ := ih _ _ h
        refine ⟨⟨f, dayL f x y gr out, grAt gr f.h⟩ :: tl, by rw [h1]; simp, by simp [h2], fun k p hp => ?_⟩
        cases k with
        | zero =>
          simp at hp
          subst hp
          have he := early_ok f y out x
          have hf := free_ok out (grAt gr f.h) (earlyL f y x out)
          refine ⟨hk, rfl, ?_, by show dayL f x y gr out ≤ 109572; omega, ?_, ?_⟩
          · show x ≤ freeL _ _ _; omega
          · rw [List.take_zero, List.append_nil]; exact hf.2
          · intro q hq hh
            have := he.2 q (by simpa using hq) hh
            show _ ≤ freeL _ _ _; omega
        | succ k =>
          simp at hp
          have := h3 k p hp
          simpa using this
    · injection h with _ h; omega

theorem fits_chk {x y : Int} {gr : List Int} {pre : List Pf} {p : Pf} (h : Fits x y gr pre p) : chkOne x y gr pre p = 0 := by
  unfold chkOne
  rw [if_neg (by simp [h.known, h.ground]), if_neg (by have := h.lo; have := h.hi; omega), if_neg (by rw [h.free]; simp)]
  rw [if_neg]
  intro hc
  obtain ⟨q, hq, hcl⟩ := List.any_eq_true.1 hc
  unfold closeL at hcl
  simp only [Bool.and_eq_true, decide_eq_true_eq] at hcl
  have := h.rest q hq hcl.1
  have h2 := hcl.2
  omega
theorem chk_all {x y : Int} {gr : List Int} : ∀ (ps pre : List Pf), (∀ k p, ps[k]? = some p → Fits x y gr (pre ++ ps.take k) p) → chkFrom x y gr pre ps = (-1, 0) := by
  intro ps
  induction ps with
  | nil => intro pre _; rfl
  | cons p ps ih =>
    intro pre h
    have h0 := fits_chk (h 0 p rfl)
    simp at h0
    simp only [chkFrom]
    rw [if_pos h0]
    exact ih _ fun k q hq => by have := h (k + 1) q (by simpa using hq); simpa using this

theorem days_law {l : List Fx} {x y : Int} {gr : List Int} {out : List Pf} (h : placeAll l x y gr = (out, 0)) :
    out.length = l.length ∧ chkAll out x y gr = (-1, 0) ∧ ∀ k p, out[k]? = some p → l[k]? = some p.f ∧ Fits x y gr (out.take k) p := by
  unfold placeAll at h
  split at h
  · rename_i hs
    obtain ⟨tl, h1, h2, h3⟩ := place_ok x y gr l [] out h
    simp at h1
    subst h1
    have hl : out.length = l.length := by rw [← h2]; simp
    refine ⟨hl, ?_, fun k p hp => ⟨by rw [← h2]; simp [hp], by simpa using h3 k p hp⟩⟩
    unfold chkAll
    rw [hl, if_pos hs]
    exact chk_all out [] fun k p hp => by simpa using h3 k p hp
  · rename_i hs
    injection h with _ h
    exact absurd h hs
theorem place_err {l : List Fx} {x y : Int} {gr : List Int} (h : (placeAll l x y gr).2 ≠ 0) : (placeAll l x y gr).1 = [] := by
  unfold placeAll at *
  split
  · rename_i hs
    rw [if_pos hs] at h
    have key : ∀ (fs : List Fx) (out : List Pf), (placeL x y gr fs out).2 ≠ 0 → (placeL x y gr fs out).1 = [] := by
      intro fs
      induction fs with
      | nil => intro out h; simp [placeL] at h
      | cons f fs ih =>
        intro out h
        simp only [placeL] at h ⊢
        split
        · rename_i hk
          rw [if_pos hk] at h
          split
          · rfl
          · rename_i hd
            rw [if_neg hd] at h
            exact ih _ h
        · rfl
    exact key l [] h
  · rfl
end Go.Proofs.Ythoocjcbpjdjhaa
