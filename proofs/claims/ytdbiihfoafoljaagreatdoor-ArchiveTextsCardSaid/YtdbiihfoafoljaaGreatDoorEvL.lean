/-
  Chapter 8: a line is read back. Plain.
-/
import Derived.Test.YtdbiihfoafoljaaGreatDoorEvP
set_option linter.unusedSimpArgs false
set_option linter.unusedVariables false
namespace Go.Proofs.YtdbiihfoafoljaaGreatDoor
open Go.RowKit
set_option maxRecDepth 100000
/-- What a valid form says. -/
structure OkE (e : Ev) : Prop where
  kind : 1 ≤ e.kind ∧ e.kind ≤ 16
  zero : ∀ c ∈ allC, usesB e.kind c = false → nzF e c = false
  fits : ∀ c ∈ allC, usesB e.kind c = true → fitF e c = true
  ball : e.kind = 4 → chkD e.ball = 0
theorem okE_of {e : Ev} (h : chkE e = 0) : OkE e := by
  unfold chkE at h
  split at h
  · cases h
  split at h
  · cases h
  split at h
  · cases h
  rename_i h1 h2 h3
  simp only [Bool.or_eq_true, decide_eq_true_eq, not_or] at h1
  simp only [List.any_eq_true, Bool.and_eq_true, Bool.not_eq_true', not_exists, not_and, Bool.not_eq_true] at h2 h3
  refine ⟨by omega, fun c hc hu => ?_, fun c hc hu => ?_, fun hk => ?_⟩
  · by_cases hn : nzF e c = true
    · exact absurd hu (h2 c hc hn)
    · simpa using hn
  · by_cases hn : fitF e c = false
    · have := h3 c hc hn
      rw [hu] at this
      exact absurd this (by decide)
    · simpa using hn
  · rw [if_pos hk] at h; exact h
theorem num_dc {n : Int} (h0 : 0 ≤ n) (h1 : n ≤ 1000000) : numP (dcB n) 0 1000000 = (n, 0) := numP_dc h0 h0 h1
theorem parD_prt {d : Del} (hc : chkD d = 0) (hs : 0 ≤ d.src) (hh : 0 ≤ d.how) : parD (guessP (prtD d)) (prtD d) = (d, 0) ∧ parD (guessR (prtD d)) (prtD d) = (d, 0) := by
  obtain ⟨h1, h2⟩ := guess_prt hc hs hh
  unfold parD
  rw [h1, h2, if_pos ⟨hc, rfl⟩]
  exact ⟨rfl, rfl⟩
theorem kind_tok {k : Int} (hk : 1 ≤ k ∧ k ≤ 16) : Tok (wordL k) ∧ Tok (yesL k) ∧ Tok (noL k) ∧ (98 ∈ fldsL k → k = 4) := by
  rcases (by omega : k = 1 ∨ k = 2 ∨ k = 3 ∨ k = 4 ∨ k = 5 ∨ k = 6 ∨ k = 7 ∨ k = 8 ∨ k = 9 ∨ k = 10 ∨ k = 11 ∨ k = 12 ∨ k = 13 ∨ k = 14 ∨ k = 15 ∨ k = 16) with rfl | rfl | rfl | rfl | rfl | rfl | rfl | rfl | rfl | rfl | rfl | rfl | rfl | rfl | rfl | rfl <;> exact ⟨tok_lit (by decide), tok_lit (by decide), tok_lit (by decide), by decide⟩
theorem words_tok {e : Ev} (h : OkE e) (hh : 0 ≤ e.ball.how) : ∀ w ∈ wordsE e, Tok w := by
  obtain ⟨k1, k2, k3, k4⟩ := kind_tok h.kind
  intro w hw
  rcases List.mem_cons.1 hw with rfl | hw
  · unfold word0
    split
    · exact tok_lit (by decide)
    · exact k1
  · obtain ⟨c, hc, rfl⟩ := List.mem_map.1 hw
    unfold fieldL
    split
    · exact tok_dcb _
    split
    · exact tok_dcb _
    split
    · exact tok_dcb _
    split
    · exact tok_dcb _
    split
    · exact tok_dcb _
    split
    · rename_i hc98
      subst hc98
      exact tok_prt (okD_of (h.ball (k4 hc))) hh
    · split
      · exact k2
      · exact k3
theorem word0_ne {e : Ev} (hk : 1 ≤ e.kind ∧ e.kind ≤ 16) : word0 e ≠ [] := by
  unfold word0
  split
  · decide
  · rcases (by omega : e.kind = 1 ∨ e.kind = 2 ∨ e.kind = 3 ∨ e.kind = 4 ∨ e.kind = 5 ∨ e.kind = 6 ∨ e.kind = 7 ∨ e.kind = 8 ∨ e.kind = 9 ∨ e.kind = 10 ∨ e.kind = 11 ∨ e.kind = 12 ∨ e.kind = 13 ∨ e.kind = 14 ∨ e.kind = 15 ∨ e.kind = 16) with h | h | h | h | h | h | h | h | h | h | h | h | h | h | h | h <;> rw [h] <;> decide
theorem split_txt {e : Ev} (h : OkE e) (hh : 0 ≤ e.ball.how) : splitC 32 (txtE e) = wordsE e := split_join (by simp [wordsE]) (fun w hw => (words_tok h hh w hw).1)
theorem fields_txt {e : Ev} (h : OkE e) (hh : 0 ≤ e.ball.how) : fieldsS (txtE e) = wordsE e := by
  unfold fieldsS
  rw [if_neg, split_txt h hh]
  intro e0
  have h1 := split_txt h hh
  rw [e0] at h1
  have h2 : splitC 32 [] = [[]] := rfl
  rw [h2] at h1
  unfold wordsE at h1
  injection h1 with h1 _
  exact word0_ne h.kind h1.symm
theorem guess_words {e : Ev} (h : OkE e) (hs : 0 ≤ e.ball.src) (hh : 0 ≤ e.ball.how) : guessE (wordsE e) = some e ∧ guessF (wordsE e) = e := by
  obtain ⟨k, s, p, o, y, r, v, b⟩ := e
  have hk := h.kind
  have hb := h.ball
  have hz := h.zero
  have hf := h.fits
  simp only [] at hk hb hh hs
  rcases (by omega : k = 1 ∨ k = 2 ∨ k = 3 ∨ k = 4 ∨ k = 5 ∨ k = 6 ∨ k = 7 ∨ k = 8 ∨ k = 9 ∨ k = 10 ∨ k = 11 ∨ k = 12 ∨ k = 13 ∨ k = 14 ∨ k = 15 ∨ k = 16) with rfl | rfl | rfl | rfl | rfl | rfl | rfl | rfl | rfl | rfl | rfl | rfl | rfl | rfl | rfl | rfl
  all_goals
    have z1 := hz 115 (by decide)
    have z2 := hz 112 (by decide)
    have z3 := hz 111 (by decide)
    have z4 := hz 121 (by decide)
    have z5 := hz 114 (by decide)
    have z6 := hz 118 (by decide)
    have z7 := hz 98 (by decide)
    have f1 := hf 115 (by decide)
    have f2 := hf 112 (by decide)
    have f3 := hf 111 (by decide)
    have f5 := hf 114 (by decide)
    have f6 := hf 118 (by decide)
    clear hz hf h
    simp only [usesB, fldsL, fldsT, nzF, fitF, loR, hiR, btw] at z1 z2 z3 z4 z5 z6 z7 f1 f2 f3 f5 f6
    simp at z1 z2 z3 z4 z5 z6 z7 f1 f2 f3 f5 f6
    (try subst z1)
    (try subst z2)
    (try subst z3)
    (try subst z4)
    (try subst z5)
    (try subst z6)
    (try subst z7)
  all_goals
    (try have eB := parD_prt (hb rfl) hs hh)
    (try have e1 := num_dc (n := s) (by omega) (by omega))
    (try have e2 := num_dc (n := p) (by omega) (by omega))
    (try have e3 := num_dc (n := o) (by omega) (by omega))
    (try have e4 := num_dc (n := r) (by omega) (by omega))
    (try have e5 := num_dc (n := v) (by omega) (by omega))
    clear hb hs hh hk
    refine ⟨?_, ?_⟩ <;> (try cases y) <;> simp_all [guessE, guessF, wordsE, word0, wordL, wordT, fldsL, fldsT, fieldL, kindW, List.idxOf?, List.findIdx?, List.findIdx?.go, takeAll, takeF, numF, wordF, yesL, yesT, noL, noT, sTO, sEN, zeroE]
theorem parE_eq {s : List UInt8} (h1 : ∀ g, guessE (splitC 32 s) = some g → 0 ≤ g.ball.src ∧ 0 ≤ g.ball.how) (h2 : 0 ≤ (guessF (fieldsS s)).ball.src ∧ 0 ≤ (guessF (fieldsS s)).ball.how) : parE (guessE (splitC 32 s)) s = parE (some (guessF (fieldsS s))) s := by
  have key : ∀ e : Ev, chkE e = 0 → 0 ≤ e.ball.src → 0 ≤ e.ball.how → txtE e = s → guessE (splitC 32 s) = some e ∧ guessF (fieldsS s) = e := fun e he hs hh ht => by
    have ho := okE_of he
    rw [← ht, split_txt ho hh, fields_txt ho hh]
    exact guess_words ho hs hh
  cases hg : guessE (splitC 32 s) with
  | none =>
    unfold parE
    simp only []
    rw [if_neg]
    rintro ⟨a, b⟩
    have := (key _ a h2.1 h2.2 b).1
    rw [hg] at this
    cases this
  | some g =>
    obtain ⟨g1, g2⟩ := h1 g hg
    unfold parE
    simp only []
    by_cases hp : chkE g = 0 ∧ txtE g = s
    · rw [(key g hp.1 g1 g2 hp.2).2]
    · by_cases hr : chkE (guessF (fieldsS s)) = 0 ∧ txtE (guessF (fieldsS s)) = s
      · have := (key _ hr.1 h2.1 h2.2 hr.2).1
        rw [hg] at this
        injection this with this
        rw [← this] at hr
        exact absurd hr hp
      · rw [if_neg hp, if_neg hr]
end Go.Proofs.YtdbiihfoafoljaaGreatDoor
