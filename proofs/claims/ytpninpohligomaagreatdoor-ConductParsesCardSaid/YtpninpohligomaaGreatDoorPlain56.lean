/-
  Chapter 56: the plain laws.
-/
import Derived.Test.YtpninpohligomaaGreatDoorSpec56
set_option linter.unusedSimpArgs false
set_option linter.unusedVariables false
namespace Go.Proofs.YtpninpohligomaaGreatDoor
open Go.RowKit

/-- An entry that is right by itself. -/
def okO (z : Of) : Prop := (1 ≤ z.id ∧ z.id ≤ 1099511627776) ∧ nameB z.p = true ∧ isDayB z.d = true ∧ (1 ≤ z.n ∧ z.n ≤ 8)
def ltO (a b : Of) : Prop := a.d < b.d ∨ (a.d = b.d ∧ a.id < b.id)
theorem ltO_trans {a b c : Of} (h1 : ltO a b) (h2 : ltO b c) : ltO a c := by unfold ltO at *; omega
theorem badP_lt {a b : Of} : badP a b = false ↔ ltO a b := by
  unfold badP ltO
  rw [Bool.or_eq_false_iff, Bool.and_eq_false_iff]
  simp only [decide_eq_false_iff_not]
  omega
theorem resW_zero {f : Nat → Int} {n : Nat} (h : resW f (scan f n) = 0) : ∀ j, j < n → f j = 0 := by
  cases hs : scan f n with
  | none => exact scan_inv hs
  | some i => rw [hs] at h; exact absurd h (scan_ne hs)
theorem ckO_inv {l : List Of} (h : ckO l = 0) : l.length ≤ 2000 ∧ ∀ i z, l[i]? = some z → errO l i z = 0 := by
  unfold ckO at h
  split at h
  · cases h
  · next h1 =>
    refine ⟨by omega, fun i z hz => ?_⟩
    have := resW_zero h i (List.getElem?_eq_some_iff.1 hz).1
    unfold oErr at this
    rw [hz] at this
    exact this
theorem errO_inv {l : List Of} {i : Nat} {z : Of} (h : errO l i z = 0) : okO z ∧ befO l i z = false ∧ seenO l i z.id = false := by
  unfold errO at h
  split at h
  · cases h
  · next h1 =>
    split at h
    · cases h
    · next h2 =>
      split at h
      · cases h
      · next h3 =>
        split at h
        · cases h
        · next h4 =>
          split at h
          · cases h
          · next h5 =>
            simp only [Bool.or_eq_true, decide_eq_true_eq, not_or] at h1
            simp only [Bool.not_eq_true, Bool.not_eq_false'] at h2
            simp only [Bool.or_eq_true, decide_eq_true_eq, not_or, Bool.not_eq_true', Bool.not_eq_false] at h3
            refine ⟨⟨by omega, by simpa using h2, h3.1, by omega⟩, by simpa using h4, by simpa using h5⟩
theorem errO_mk {l : List Of} {i : Nat} {z : Of} (h : okO z) (h1 : befO l i z = false) (h2 : seenO l i z.id = false) : errO l i z = 0 := by
  obtain ⟨a, b, c, d⟩ := h
  unfold errO
  rw [h1, h2, b, c]
  have e1 : decide (z.id < 1) = false := decide_eq_false (by omega)
  have e2 : decide (1099511627776 < z.id) = false := decide_eq_false (by omega)
  have e3 : decide (z.n < 1) = false := decide_eq_false (by omega)
  have e4 : decide (8 < z.n) = false := decide_eq_false (by omega)
  rw [e1, e2, e3, e4]
  rfl
theorem befO_at {l : List Of} {k : Nat} {x y : Of} (h : l[k]? = some y) : befO l (k + 1) x = badP y x := by simp [befO, h]
theorem ck_pair {l : List Of} (h : ckO l = 0) : (∀ z ∈ l, okO z) ∧ l.Pairwise ltO ∧ l.Pairwise (fun a b => a.id ≠ b.id) := by
  obtain ⟨hl, hz⟩ := ckO_inv h
  refine ⟨?_, ?_, ?_⟩
  · intro z hm
    obtain ⟨i, hi, rfl⟩ := List.getElem_of_mem hm
    exact (errO_inv (hz i _ (List.getElem?_eq_getElem hi))).1
  · have key : ∀ j i (hj : j < l.length) (hij : i < j), ltO (l[i]'(by omega)) l[j] := by
      intro j
      induction j with
      | zero => intro i _ hij; omega
      | succ j ih =>
        intro i hj hij
        have hadj : ltO (l[j]'(by omega)) l[j + 1] := by
          have := (errO_inv (hz (j + 1) _ (List.getElem?_eq_getElem hj))).2.1
          rw [befO_at (List.getElem?_eq_getElem (show j < l.length by omega))] at this
          exact badP_lt.1 this
        by_cases e : i = j
        · subst e; exact hadj
        · exact ltO_trans (ih i (by omega) (by omega)) hadj
    rw [List.pairwise_iff_getElem]
    intro i j hi hj hij
    exact key j i hj hij
  · rw [List.pairwise_iff_getElem]
    intro i j hi hj hij e
    have := (errO_inv (hz j _ (List.getElem?_eq_getElem hj))).2.2
    unfold seenO at this
    rw [List.any_eq_false] at this
    have hm : l[i] ∈ l.take j := by
      rw [List.mem_iff_getElem?]
      exact ⟨i, by rw [List.getElem?_take, if_pos hij, List.getElem?_eq_getElem hi]⟩
    have h2 := this _ hm
    simp [e] at h2
theorem pair_ck {l : List Of} (hl : l.length ≤ 2000) (h1 : ∀ z ∈ l, okO z) (h2 : l.Pairwise ltO) (h3 : l.Pairwise (fun a b => a.id ≠ b.id)) : ckO l = 0 := by
  rw [List.pairwise_iff_getElem] at h2 h3
  unfold ckO
  rw [if_neg (by omega), scan_none]
  · rfl
  · intro j hj
    unfold oErr
    rw [List.getElem?_eq_getElem hj]
    refine errO_mk (h1 _ (List.getElem_mem hj)) ?_ ?_
    · cases j with
      | zero => rfl
      | succ j =>
        rw [befO_at (List.getElem?_eq_getElem (show j < l.length by omega))]
        exact badP_lt.2 (h2 j (j + 1) (by omega) hj (by omega))
    · unfold seenO
      rw [List.any_eq_false]
      intro y hy
      obtain ⟨i, hi⟩ := List.mem_iff_getElem?.1 hy
      rw [List.getElem?_take] at hi
      split at hi
      · next hij =>
        obtain ⟨hi2, rfl⟩ := List.getElem?_eq_some_iff.1 hi
        simpa using h3 i j hi2 hj hij
      · cases hi
/-- The entries of one player. -/
def ownO (p : ByteArray) (l : List Of) : List Of := l.filter fun z => seq z.p p
theorem own_ck {l : List Of} (p : ByteArray) (h : ckO l = 0) : ckO (ownO p l) = 0 := by
  obtain ⟨h1, h2, h3⟩ := ck_pair h
  have hl := (ckO_inv h).1
  exact pair_ck (Nat.le_trans (List.length_filter_le _ _) hl) (fun z hz => h1 z (List.mem_filter.1 hz).1) (h2.filter _) (h3.filter _)
theorem pts_own (p : ByteArray) (d : Int) (l : List Of) : ptsL p d (ownO p l) = ptsL p d l := by
  induction l with
  | nil => rfl
  | cons z l ih =>
    unfold ownO at ih ⊢
    rw [List.filter_cons]
    split
    · simp only [ptsL, ih]
    · next h =>
      have hc : cntO p d z = false := by unfold cntO; simp at h; rw [h]; rfl
      simp only [ptsL, hc, ih]
      simp
theorem marks_own (p : ByteArray) (ms : List Int) : ∀ (l pre : List Of) (m : List Bool), marksF p ms (ownO p pre) (ownO p l) m = marksF p ms pre l m
  | [], _, _ => rfl
  | z :: l, pre, m => by
    have hpre : ownO p (pre ++ [z]) = if seq z.p p then ownO p pre ++ [z] else ownO p pre := by
      unfold ownO
      rw [List.filter_append]
      by_cases h : seq z.p p = true <;> simp [h]
    by_cases h : seq z.p p = true
    · have hl : ownO p (z :: l) = z :: ownO p l := by unfold ownO; rw [List.filter_cons, if_pos h]
      rw [hl]
      simp only [marksF]
      rw [if_pos h] at hpre
      rw [← hpre, marks_own p ms l (pre ++ [z])]
      have hc : costF p (ownO p pre) z = costF p pre z := by unfold costF; rw [pts_own]
      rw [hc]
    · have hl : ownO p (z :: l) = ownO p l := by unfold ownO; rw [List.filter_cons, if_neg h]
      rw [hl]
      simp only [marksF]
      rw [if_neg h] at hpre ⊢
      rw [← hpre, marks_own p ms l (pre ++ [z])]
theorem others {l : List Of} (p : ByteArray) (ms : List Int) (h : ckO l = 0) : suspS (ownO p l) p ms = suspS l p ms := by
  unfold suspS
  rw [own_ck p h, h]
  have : marksO (ownO p l) p ms (ownO p l).length = marksO l p ms l.length := by
    unfold marksO
    rw [List.take_length, List.take_length]
    exact marks_own p ms l [] _
  rw [this]

/-! A player who never has the threshold -/
theorem pts_nonneg {l : List Of} (p : ByteArray) (d : Int) (h : ∀ z ∈ l, okO z) : 0 ≤ ptsL p d l := by
  induction l with
  | nil => exact Int.le_refl _
  | cons z l ih =>
    have h1 := ih fun y hy => h y (List.mem_cons_of_mem _ hy)
    have h2 := (h z (List.mem_cons_self ..)).2.2.2
    unfold ptsL
    split <;> omega
theorem markR_zero (d : Int) : ∀ (ms : List Int) (bs : List Bool) (c : Int), c ≤ 0 → markR d ms bs c = bs
  | [], _, _, _ => by unfold markR; rfl
  | _ :: _, [], _, _ => rfl
  | m :: ms, b :: bs, c, h => by
    unfold markR
    have e : decide (0 < c) = false := decide_eq_false (by omega)
    rw [e, markR_zero d ms bs c h]
    simp
theorem cost_zero {p : ByteArray} {pre : List Of} {z : Of} {t : Int} (h0 : 0 ≤ ptsL p z.d pre) (hn : 1 ≤ z.n) (ht : ptsL p z.d pre + z.n ≤ t) (h4 : t < 4) : costF p pre z = 0 := by
  unfold costF
  have a1 : ptsL p z.d pre / 4 = 0 := by omega
  have a2 : (ptsL p z.d pre + z.n) / 4 = 0 := by omega
  rw [a1, a2]; rfl
theorem pick_none : ∀ (ms : List Int) (n : Nat), pick ms (List.replicate n false) = []
  | [], n => by cases n <;> rfl
  | m :: ms, 0 => rfl
  | m :: ms, n + 1 => by
    rw [List.replicate_succ]
    unfold pick
    simp [pick_none ms n]
theorem marks_clean (p : ByteArray) (ms : List Int) (L : List Of) (hok : ∀ z ∈ L, okO z) (h4 : ∀ z ∈ L, seq z.p p = true → ptsL p z.d L < 4) : ∀ (l pre : List Of) (m : List Bool), L = pre ++ l → marksF p ms pre l m = m
  | [], _, _, _ => rfl
  | z :: l, pre, m, hL => by
    have hz : z ∈ L := by rw [hL]; simp
    have hL2 : L = (pre ++ [z]) ++ l := by rw [hL]; simp
    unfold marksF
    rw [marks_clean p ms L hok h4 l (pre ++ [z]) _ hL2]
    by_cases h : seq z.p p = true
    · rw [if_pos h]
      have hn := (hok z hz).2.2.2
      have hpre : 0 ≤ ptsL p z.d pre := pts_nonneg p _ fun y hy => hok y (by rw [hL]; simp [hy])
      have hpost : 0 ≤ ptsL p z.d l := pts_nonneg p _ fun y hy => hok y (by rw [hL]; simp [hy])
      have hc : cntO p z.d z = true := by unfold cntO; rw [h]; simp; omega
      have ht : ptsL p z.d pre + z.n + ptsL p z.d l = ptsL p z.d L := by
        rw [hL, ptsL_append]
        simp only [ptsL, hc, if_true]
        omega
      rw [markR_zero _ _ _ _ (by rw [cost_zero hpre hn.1 (t := ptsL p z.d L) (by omega) (h4 z hz h)]; exact Int.le_refl _)]
    · rw [if_neg h]
theorem clean {l : List Of} (p : ByteArray) (ms : List Int) (h : ckO l = 0) (h4 : ∀ z ∈ l, seq z.p p = true → ptsL p z.d l < 4) : pick ms (marksO l p ms l.length) = [] := by
  unfold marksO
  rw [List.take_length, marks_clean p ms l (ck_pair h).1 h4 l [] _ rfl, pick_none]
/-! None is missed on or before the day of the first entry -/
/-- Each mark stands behind some entry of the player. -/
def late (f : Int) : List Int → List Bool → Prop
  | m :: ms, b :: bs => (b = true → f < m) ∧ late f ms bs
  | _, _ => True
theorem late_none (f : Int) : ∀ (ms : List Int) (n : Nat), late f ms (List.replicate n false)
  | [], n => by cases n <;> trivial
  | m :: ms, 0 => trivial
  | m :: ms, n + 1 => by rw [List.replicate_succ]; exact ⟨fun h => (by cases h), late_none f ms n⟩
theorem late_mark {f d : Int} (hfd : f ≤ d) : ∀ (ms : List Int) (bs : List Bool) (c : Int), late f ms bs → late f ms (markR d ms bs c)
  | [], bs, c, _ => by unfold markR late; trivial
  | m :: ms, [], c, h => h
  | m :: ms, b :: bs, c, h => by
    unfold markR
    split
    · next hc =>
      simp only [Bool.and_eq_true, decide_eq_true_eq] at hc
      exact ⟨fun _ => by omega, late_mark hfd ms bs _ h.2⟩
    · exact ⟨h.1, late_mark hfd ms bs _ h.2⟩
theorem late_marks {f : Int} (p : ByteArray) (ms : List Int) : ∀ (l pre : List Of) (m : List Bool), (∀ z ∈ l, seq z.p p = true → f ≤ z.d) → late f ms m → late f ms (marksF p ms pre l m)
  | [], _, _, _, h => h
  | z :: l, pre, m, hz, h => by
    unfold marksF
    refine late_marks p ms l _ _ (fun y hy => hz y (List.mem_cons_of_mem _ hy)) ?_
    split
    · next hs => exact late_mark (hz z (List.mem_cons_self ..) hs) _ _ _ h
    · exact h
theorem late_pick {f : Int} : ∀ (ms : List Int) (bs : List Bool), late f ms bs → ∀ d ∈ pick ms bs, f < d
  | [], bs, _, d, hd => by unfold pick at hd; cases hd
  | m :: ms, [], _, d, hd => by unfold pick at hd; cases hd
  | m :: ms, b :: bs, h, d, hd => by
    unfold pick at hd
    split at hd
    · next hb =>
      rcases List.mem_cons.1 hd with rfl | hd
      · exact h.1 hb
      · exact late_pick ms bs h.2 d hd
    · exact late_pick ms bs h.2 d hd
/-- The day of the player's first entry. -/
def firstO (p : ByteArray) : List Of → Int
  | [] => -1
  | z :: l => if seq z.p p then z.d else firstO p l
theorem first_le {l : List Of} (p : ByteArray) (h : l.Pairwise ltO) : ∀ z ∈ l, seq z.p p = true → firstO p l ≤ z.d := by
  induction l with
  | nil => intro z hz; cases hz
  | cons y l ih =>
    obtain ⟨h1, h2⟩ := List.pairwise_cons.1 h
    intro z hz hs
    unfold firstO
    split
    · rcases List.mem_cons.1 hz with rfl | hz
      · exact Int.le_refl _
      · have := h1 z hz; unfold ltO at this; omega
    · next hy =>
      rcases List.mem_cons.1 hz with rfl | hz
      · exact absurd hs hy
      · exact ih h2 z hz hs
theorem after_first {l : List Of} (p : ByteArray) (ms : List Int) (h : ckO l = 0) : ∀ d ∈ pick ms (marksO l p ms l.length), firstO p l < d := by
  refine late_pick ms _ ?_
  unfold marksO
  rw [List.take_length]
  exact late_marks p ms l [] _ (first_le p (ck_pair h).2.1) (late_none _ _ _)
/-! Every point counts -/
theorem markR_run (d : Int) : ∀ (ms : List Int) (t c u : Nat), (∀ m ∈ ms, d < m) → ms.length = t + c + u → markR d ms (List.replicate t true ++ List.replicate (c + u) false) c = List.replicate (t + c) true ++ List.replicate u false
  | [], t, c, u, _, hl => by
    obtain ⟨rfl, rfl, rfl⟩ : t = 0 ∧ c = 0 ∧ u = 0 := by simp at hl; omega
    rfl
  | m :: ms, t + 1, c, u, hm, hl => by
    rw [List.replicate_succ, List.cons_append]
    unfold markR
    rw [markR_run d ms t c u (fun y hy => hm y (List.mem_cons_of_mem _ hy)) (by simp at hl; omega)]
    simp only [Bool.not_true, Bool.and_false]
    rw [show t + 1 + c = (t + c) + 1 by omega, List.replicate_succ]
    rfl
  | m :: ms, 0, c + 1, u, hm, hl => by
    rw [show c + 1 + u = (c + u) + 1 by omega, List.replicate_succ]
    simp only [List.replicate_zero, List.nil_append]
    unfold markR
    have e1 : decide (0 < ((c + 1 : Nat) : Int)) = true := decide_eq_true (by omega)
    have e2 : decide (d < m) = true := decide_eq_true (hm m (List.mem_cons_self ..))
    have h := markR_run d ms 0 c u (fun y hy => hm y (List.mem_cons_of_mem _ hy)) (by simp at hl; omega)
    simp only [List.replicate_zero, List.nil_append, Nat.zero_add] at h
    rw [e1, e2, show ((c + 1 : Nat) : Int) - 1 = (c : Int) by omega, h, show 0 + (c + 1) = c + 1 by omega, List.replicate_succ]
    rfl
  | m :: ms, 0, 0, u, _, _ => by
    rw [markR_zero _ _ _ _ (by simp)]
    simp
theorem pick_run : ∀ (ms : List Int) (t u : Nat), pick ms (List.replicate t true ++ List.replicate u false) = ms.take t
  | [], t, u => by cases h : List.replicate t true ++ List.replicate u false <;> simp [pick]
  | m :: ms, 0, u => by simpa using pick_none (m :: ms) u
  | m :: ms, t + 1, u => by
    rw [List.replicate_succ, List.cons_append]
    unfold pick
    rw [pick_run ms t u]
    rfl
def annB : ByteArray := ⟨#[65, 78, 78]⟩
def mkO : Nat → List Int → List Of
  | _, [] => []
  | i, n :: ns => ⟨(i : Int) + 1, annB, 10 * (i : Int), n⟩ :: mkO (i + 1) ns
theorem mkO_len : ∀ (ns : List Int) (i : Nat), (mkO i ns).length = ns.length
  | [], _ => rfl
  | n :: ns, i => by simp [mkO, mkO_len ns]
theorem mkO_snoc : ∀ (ns : List Int) (i : Nat) (n : Int), mkO i (ns ++ [n]) = mkO i ns ++ [⟨((i + ns.length : Nat) : Int) + 1, annB, 10 * ((i + ns.length : Nat) : Int), n⟩]
  | [], i, n => by simp [mkO]
  | y :: ns, i, n => by
    simp only [List.cons_append, mkO, mkO_snoc ns (i + 1) n, List.length_cons]
    rw [show i + 1 + ns.length = i + (ns.length + 1) by omega]
theorem mkO_mem : ∀ (ns : List Int) (i : Nat) (z : Of), z ∈ mkO i ns → z.p = annB ∧ z.n ∈ ns ∧ ∃ j : Nat, i ≤ j ∧ j < i + ns.length ∧ z.id = (j : Int) + 1 ∧ z.d = 10 * (j : Int)
  | [], i, z, h => by cases h
  | n :: ns, i, z, h => by
    unfold mkO at h
    rcases List.mem_cons.1 h with rfl | h
    · exact ⟨rfl, List.mem_cons_self .., i, Nat.le_refl _, by simp, rfl, rfl⟩
    · obtain ⟨h1, h2, j, h3, h4, h5, h6⟩ := mkO_mem ns (i + 1) z h
      exact ⟨h1, List.mem_cons_of_mem _ h2, j, by omega, by simp; omega, h5, h6⟩
theorem mkO_pair : ∀ (ns : List Int) (i : Nat), (mkO i ns).Pairwise ltO ∧ (mkO i ns).Pairwise (fun a b => a.id ≠ b.id)
  | [], i => ⟨List.Pairwise.nil, List.Pairwise.nil⟩
  | n :: ns, i => by
    obtain ⟨h1, h2⟩ := mkO_pair ns (i + 1)
    unfold mkO
    refine ⟨List.pairwise_cons.2 ⟨fun z hz => ?_, h1⟩, List.pairwise_cons.2 ⟨fun z hz => ?_, h2⟩⟩
    · obtain ⟨_, _, j, h3, _, h5, h6⟩ := mkO_mem ns (i + 1) z hz
      left
      rw [h6]
      show 10 * (i : Int) < 10 * (j : Int)
      omega
    · obtain ⟨_, _, j, h3, _, h5, h6⟩ := mkO_mem ns (i + 1) z hz
      rw [h5]
      show (i : Int) + 1 ≠ (j : Int) + 1
      omega
theorem mkO_ck {ns : List Int} (hl : ns.length ≤ 8) (h : ∀ n ∈ ns, 1 ≤ n ∧ n ≤ 8) : ckO (mkO 0 ns) = 0 := by
  refine pair_ck (by rw [mkO_len]; omega) ?_ (mkO_pair ns 0).1 (mkO_pair ns 0).2
  intro z hz
  obtain ⟨h1, h2, j, h3, h4, h5, h6⟩ := mkO_mem ns 0 z hz
  refine ⟨by omega, by rw [h1]; decide +kernel, ?_, h _ h2⟩
  unfold isDayB
  rw [decide_eq_true (show 0 ≤ z.d by omega), decide_eq_true (show z.d ≤ 1000000 by omega)]
  rfl
def sumL : List Int → Int
  | [] => 0
  | n :: ns => n + sumL ns
theorem sumL_append (a b : List Int) : sumL (a ++ b) = sumL a + sumL b := by
  induction a with
  | nil => simp [sumL]
  | cons x a ih => simp only [List.cons_append, sumL, ih]; omega
theorem sumL_rng {ns : List Int} (h : ∀ n ∈ ns, 1 ≤ n ∧ n ≤ 8) : 0 ≤ sumL ns ∧ sumL ns ≤ 8 * ns.length := by
  induction ns with
  | nil => simp [sumL]
  | cons n ns ih =>
    have h1 := h n (List.mem_cons_self ..)
    have h2 := ih fun y hy => h y (List.mem_cons_of_mem _ hy)
    simp only [sumL, List.length_cons]
    omega
theorem pts_mk (d : Int) : ∀ (ns : List Int) (i : Nat), (∀ j : Nat, i ≤ j → j < i + ns.length → 10 * (j : Int) ≤ d ∧ d - 730 < 10 * (j : Int)) → ptsL annB d (mkO i ns) = sumL ns
  | [], _, _ => rfl
  | n :: ns, i, h => by
    obtain ⟨h1, h2⟩ := h i (Nat.le_refl _) (by simp)
    have hc : cntO annB d ⟨(i : Int) + 1, annB, 10 * (i : Int), n⟩ = true := by
      unfold cntO
      rw [decide_eq_true h1, decide_eq_true h2]
      rfl
    simp only [mkO, ptsL, hc, if_true, sumL]
    rw [pts_mk d ns (i + 1) (fun j h3 h4 => h j (by omega) (by simp; omega))]
def runL (t n : Nat) : List Bool := List.replicate t true ++ List.replicate (n - t) false
theorem marks_mk (ms : List Int) (hm : ∀ m ∈ ms, 80 < m) (hml : ms.length = 40) : ∀ (ns pre : List Int), pre.length + ns.length ≤ 8 → (∀ n ∈ pre ++ ns, 1 ≤ n ∧ n ≤ 8) →
    marksF annB ms (mkO 0 pre) (mkO pre.length ns) (runL (2 * (sumL pre / 4)).toNat 40) = runL (2 * (sumL (pre ++ ns) / 4)).toNat 40
  | [], pre, _, _ => by simp [mkO, marksF]
  | n :: ns, pre, hl, h => by
    have hl' : pre.length + ns.length + 1 ≤ 8 := by simp at hl; omega
    have hn := h n (by simp)
    have hs := sumL_rng (ns := pre) fun y hy => h y (by simp [hy])
    have hz : ptsL annB (10 * (pre.length : Int)) (mkO 0 pre) = sumL pre := pts_mk _ pre 0 fun j _ h2 => by simp at h2; omega
    have hse : seq annB annB = true := seq_eq.2 rfl
    have step : marksF annB ms (mkO 0 pre) (mkO pre.length (n :: ns)) (runL (2 * (sumL pre / 4)).toNat 40) = marksF annB ms (mkO 0 (pre ++ [n])) (mkO (pre ++ [n]).length ns) (runL (2 * (sumL (pre ++ [n]) / 4)).toNat 40) := by
      rw [mkO_snoc]
      simp only [mkO, marksF, hse, if_true, List.length_append, List.length_singleton, Nat.zero_add]
      congr 1
      unfold costF
      simp only [hz]
      have e1 : sumL (pre ++ [n]) = sumL pre + n := by rw [sumL_append]; simp [sumL]
      rw [e1]
      obtain ⟨t, ht⟩ : ∃ t : Nat, (2 * (sumL pre / 4)).toNat = t := ⟨_, rfl⟩
      obtain ⟨c, hc⟩ : ∃ c : Nat, 2 * ((sumL pre + n) / 4 - sumL pre / 4) = (c : Int) := ⟨(2 * ((sumL pre + n) / 4 - sumL pre / 4)).toNat, by omega⟩
      have htc : (2 * ((sumL pre + n) / 4)).toNat = t + c := by omega
      have hb : t + c ≤ 40 := by omega
      rw [ht, htc, hc]
      unfold runL
      rw [show 40 - t = c + (40 - (t + c)) by omega]
      exact markR_run _ ms t c (40 - (t + c)) (fun m hm2 => by have := hm m hm2; omega) (by omega)
    rw [step, marks_mk ms hm hml ns (pre ++ [n]) (by simp; omega) (by simpa using h)]
    simp
theorem counts (ms : List Int) (hm : ∀ m ∈ ms, 80 < m) (hml : ms.length = 40) {ns : List Int} (hl : ns.length ≤ 8) (h : ∀ n ∈ ns, 1 ≤ n ∧ n ≤ 8) :
    pick ms (marksO (mkO 0 ns) annB ms (mkO 0 ns).length) = ms.take (2 * (sumL ns / 4)).toNat := by
  unfold marksO
  rw [List.take_length]
  have h0 := marks_mk ms hm hml ns [] (by simpa using hl) (by simpa using h)
  simp only [mkO, List.length_nil, List.nil_append] at h0
  have hr : runL (2 * (sumL [] / 4)).toNat 40 = List.replicate ms.length false := by rw [hml]; rfl
  rw [hr] at h0
  rw [h0]
  exact pick_run _ _ _
end Go.Proofs.YtpninpohligomaaGreatDoor
