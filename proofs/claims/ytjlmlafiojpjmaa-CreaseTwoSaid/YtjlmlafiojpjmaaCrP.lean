/-
  Chapter 12: plain laws of CreaseTwo and CreaseKeeps.
-/
import Derived.Test.YtjlmlafiojpjmaaCrA
set_option linter.unusedSimpArgs false
set_option linter.unusedVariables false
namespace Go.Proofs.Ytjlmlafiojpjmaa
open Go.RowKit

/-- How many of a list have a status. -/
def cnt (x : Int) : List Int → Nat
  | [] => 0
  | y :: l => (if y = x then 1 else 0) + cnt x l
theorem cnt_append (x : Int) : ∀ (l m : List Int), cnt x (l ++ m) = cnt x l + cnt x m
  | [], m => by simp [cnt]
  | y :: l, m => by show (if y = x then 1 else 0) + cnt x (l ++ m) = _; rw [cnt_append x l m]; show _ = (if y = x then 1 else 0) + cnt x l + cnt x m; omega
theorem cnt_set (x v : Int) : ∀ (l : List Int) (P : Nat) (u : Int), l[P]? = some u → cnt x (l.set P v) + (if u = x then 1 else 0) = cnt x l + (if v = x then 1 else 0)
  | [], P, u, h => by simp at h
  | y :: l, 0, u, h => by
    simp at h; subst h
    show (if v = x then 1 else 0) + cnt x l + _ = (if y = x then 1 else 0) + cnt x l + _
    omega
  | y :: l, P + 1, u, h => by
    simp at h
    have ih := cnt_set x v l P u h
    show (if y = x then 1 else 0) + cnt x (l.set P v) + _ = (if y = x then 1 else 0) + cnt x l + _
    omega
theorem cnt_zero (x : Int) : ∀ (l : List Int), (∀ y ∈ l, y ≠ x) → cnt x l = 0
  | [], _ => rfl
  | y :: l, h => by
    show (if y = x then 1 else 0) + cnt x l = 0
    rw [if_neg (h y List.mem_cons_self), cnt_zero x l (fun z hz => h z (List.mem_cons_of_mem _ hz))]
theorem cnt_len (x : Int) : ∀ (l : List Int), cnt x l ≤ l.length
  | [] => by simp [cnt]
  | y :: l => by
    have := cnt_len x l
    show (if y = x then 1 else 0) + cnt x l ≤ l.length + 1
    split <;> omega
theorem cnt_pos (x : Int) : ∀ (l : List Int), 0 < cnt x l → x ∈ l
  | [], h => by simp [cnt] at h
  | y :: l, h => by
    by_cases e : y = x
    · subst e; exact List.mem_cons_self
    · refine List.mem_cons_of_mem _ (cnt_pos x l ?_)
      have : cnt x (y :: l) = cnt x l := by show (if y = x then 1 else 0) + cnt x l = _; rw [if_neg e]; omega
      omega
/-- The statuses that there are. -/
def StatOk (l : List Int) : Prop := ∀ y ∈ l, y = 0 ∨ y = 1 ∨ y = 2 ∨ y = 3
theorem stat_sum : ∀ (l : List Int), StatOk l → cnt 0 l + cnt 1 l + cnt 2 l + cnt 3 l = l.length
  | [], _ => rfl
  | y :: l, h => by
    have ih := stat_sum l (fun z hz => h z (List.mem_cons_of_mem _ hz))
    show ((if y = 0 then 1 else 0) + cnt 0 l) + ((if y = 1 then 1 else 0) + cnt 1 l) + ((if y = 2 then 1 else 0) + cnt 2 l) + ((if y = 3 then 1 else 0) + cnt 3 l) = l.length + 1
    rcases h y List.mem_cons_self with e | e | e | e <;> subst e <;> simp <;> omega
theorem begun_cnt {l : List Int} (h : StatOk l) : begunL l = decide (0 < cnt 1 l + cnt 2 l + cnt 3 l) := by
  unfold begunL
  have hs := stat_sum l h
  cases hb : l.any fun s => s != 0
  · rw [List.any_eq_false] at hb
    have h0 : ∀ y ∈ l, y = 0 := fun y hy => by have := hb y hy; simpa using this
    have e1 := cnt_zero 1 l (fun y hy e => by rw [h0 y hy] at e; cases e)
    have e2 := cnt_zero 2 l (fun y hy e => by rw [h0 y hy] at e; cases e)
    have e3 := cnt_zero 3 l (fun y hy e => by rw [h0 y hy] at e; cases e)
    rw [e1, e2, e3]; rfl
  · obtain ⟨y, hy, hne⟩ := List.any_eq_true.1 hb
    have : cnt 0 l < l.length := by
      have key : ∀ (l : List Int), y ∈ l → y ≠ 0 → cnt 0 l < l.length := by
        intro l
        induction l with
        | nil => intro h; cases h
        | cons z l ih =>
          intro hm hn
          have hl := cnt_len 0 l
          show (if z = 0 then 1 else 0) + cnt 0 l < l.length + 1
          rcases List.mem_cons.1 hm with rfl | hm
          · rw [if_neg hn]; omega
          · have := ih hm hn
            split <;> omega
      exact key l hy (by simpa using hne)
    rw [decide_eq_true (by omega)]
/-- The batters' numbers. -/
def batL : Nat → List Int → List Int
  | _, [] => []
  | k, s :: r => if s = 1 then ((k : Int) + 1) :: batL (k + 1) r else batL (k + 1) r
theorem batL_snoc : ∀ (l : List Int) (k : Nat) (x : Int), batL k (l ++ [x]) = batL k l ++ (if x = 1 then [((k + l.length : Nat) : Int) + 1] else [])
  | [], k, x => by simp [batL]
  | s :: r, k, x => by
    have ih := batL_snoc r (k + 1) x
    show (if s = 1 then ((k : Int) + 1) :: batL (k + 1) (r ++ [x]) else batL (k + 1) (r ++ [x])) = (if s = 1 then ((k : Int) + 1) :: batL (k + 1) r else batL (k + 1) r) ++ _
    rw [ih, List.length_cons, show k + 1 + r.length = k + (r.length + 1) by omega]
    split <;> simp
theorem batL_len : ∀ (l : List Int) (k : Nat), (batL k l).length = cnt 1 l
  | [], _ => rfl
  | s :: r, k => by
    have ih := batL_len r (k + 1)
    unfold batL
    show _ = (if s = 1 then 1 else 0) + cnt 1 r
    split <;> simp [ih] <;> omega
theorem batL_none : ∀ (l : List Int) (k : Nat), (∀ (P : Nat), l[P]? ≠ some 1) → batL k l = []
  | [], _, _ => rfl
  | s :: r, k, h => by
    unfold batL
    rw [if_neg (fun e => h 0 (by simp [e])), batL_none r (k + 1) (fun P => by have := h (P + 1); simpa using this)]
theorem batL_one : ∀ (l : List Int) (k Q : Nat), l[Q]? = some 1 → (∀ (P : Nat), l[P]? = some 1 → P = Q) → batL k l = [((k + Q : Nat) : Int) + 1]
  | [], _, Q, h, _ => by simp at h
  | s :: r, k, 0, h, hu => by
    simp at h; subst h
    unfold batL
    rw [if_pos rfl, batL_none r (k + 1) (fun P e => by have := hu (P + 1) (by simpa using e); omega)]
    rfl
  | s :: r, k, Q + 1, h, hu => by
    simp at h
    have hs : s ≠ 1 := fun e => by have := hu 0 (by simp [e]); omega
    unfold batL
    rw [if_neg hs, batL_one r (k + 1) Q h (fun P e => by have := hu (P + 1) (by simpa using e); omega)]
    rw [show k + 1 + Q = k + (Q + 1) by omega]
theorem batL_two : ∀ (l : List Int) (k Q R : Nat), Q < R → l[Q]? = some 1 → l[R]? = some 1 → (∀ (P : Nat), l[P]? = some 1 → P = Q ∨ P = R) → batL k l = [((k + Q : Nat) : Int) + 1, ((k + R : Nat) : Int) + 1]
  | [], _, Q, R, _, h, _, _ => by simp at h
  | s :: r, k, 0, R + 1, _, h, h2, hu => by
    simp at h h2; subst h
    unfold batL
    rw [if_pos rfl, batL_one r (k + 1) R h2 (fun P e => by have := hu (P + 1) (by simpa using e); omega)]
    rw [show k + 1 + R = k + (R + 1) by omega]; rfl
  | s :: r, k, Q + 1, R + 1, hlt, h, h2, hu => by
    simp at h h2
    have hs : s ≠ 1 := fun e => by have := hu 0 (by simp [e]); omega
    unfold batL
    rw [if_neg hs, batL_two r (k + 1) Q R (by omega) h h2 (fun P e => by have := hu (P + 1) (by simpa using e); omega)]
    rw [show k + 1 + Q = k + (Q + 1) by omega, show k + 1 + R = k + (R + 1) by omega]
def plcL (s o : Int) : List Int := (if s ≠ 0 then [s] else []) ++ (if o ≠ 0 then [o] else [])
def sort2 (l : List Int) : List Int := l.mergeSort fun x y => decide (x ≤ y)

/-- What holds from the beginning on. -/
structure Inv (I : Inn) : Prop where
  n : 2 ≤ I.b.length ∧ I.b.length ≤ 11
  nil : I.bo = [] ∧ I.be = [] ∧ I.bd = [] ∧ I.sb = []
  ok : StatOk I.b
  st : I.st = 0 ∨ ∃ P : Nat, I.st = P + 1 ∧ I.b[P]? = some 1
  ot : I.ot = 0 ∨ ∃ P : Nat, I.ot = P + 1 ∧ I.b[P]? = some 1
  ne : I.st = I.ot → I.st = 0
  all : ∀ P : Nat, I.b[P]? = some 1 → I.st = P + 1 ∨ I.ot = P + 1
  wk : I.wk = cnt 2 I.b
theorem Inv.few {I : Inn} (h : Inv I) : I.Few := by
  obtain ⟨h1, h2, h3, h4⟩ := h.nil
  exact ⟨by have := h.n; omega, by rw [h1]; simp, by rw [h2]; simp, by rw [h3]; simp, by rw [h4]; simp⟩
theorem StatOk.set {l : List Int} (h : StatOk l) (P : Nat) {v : Int} (hv : v = 0 ∨ v = 1 ∨ v = 2 ∨ v = 3) : StatOk (l.set P v) := by
  intro y hy
  rcases List.mem_or_eq_of_mem_set hy with h1 | rfl
  · exact h y h1
  · exact hv
theorem set_at {l : List Int} {P Q : Nat} {v u : Int} (h : (l.set P v)[Q]? = some u) : (Q = P ∧ u = v) ∨ (Q ≠ P ∧ l[Q]? = some u) := by
  rw [List.getElem?_set] at h
  by_cases e : P = Q
  · subst e
    simp at h
    exact .inl ⟨rfl, h.2.symm⟩
  · rw [if_neg e] at h; exact .inr ⟨fun e2 => e e2.symm, h⟩
theorem set_other {l : List Int} {P Q : Nat} {v u : Int} (h : l[Q]? = some u) (hne : Q ≠ P) : (l.set P v)[Q]? = some u := by
  rw [List.getElem?_set, if_neg (fun e => hne e.symm)]; exact h
theorem set_self {l : List Int} {P : Nat} {v : Int} (h : P < l.length) : (l.set P v)[P]? = some v := by
  rw [List.getElem?_set_self h]
theorem wrap_small {x : Int} (h : 0 ≤ x ∧ x ≤ 100) : wrap64 (x + 1) = x + 1 := by simp [wrap64]; omega
theorem bAt_some {I : Inn} {P : Nat} (h : P < I.b.length) : I.b[P]? = some (bAt I P) := by
  unfold bAt; rw [List.getD_eq_getElem?_getD, List.getElem?_eq_getElem h]; rfl
theorem inv_swap {I : Inn} (h : Inv I) (sw : Bool) : Inv (swapJ I sw) := by
  unfold swapJ
  split
  · exact ⟨h.n, h.nil, h.ok, h.ot, h.st, fun e => by have := h.ne e.symm; show I.ot = 0; have e' : I.ot = I.st := e; omega, fun P hP => (h.all P hP).symm, h.wk⟩
  · exact h
theorem inv_change {I : Inn} (h : Inv I) : Inv (changeS I) :=
  ⟨h.n, h.nil, h.ok, h.ot, h.st, fun e => by have := h.ne e.symm; show I.ot = 0; have e' : I.ot = I.st := e; omega, fun P hP => (h.all P hP).symm, h.wk⟩
/-- A batter leaves his place and is out, or hurt. -/
theorem inv_leave {I J : Inn} (h : Inv I) {P : Nat} (hP : I.b[P]? = some 1) (v : Int) (hv : v = 2 ∨ v = 3) (hb : J.b = I.b.set P v) (hn : J.bo = I.bo ∧ J.be = I.be ∧ J.bd = I.bd ∧ J.sb = I.sb)
    (hp : (I.st = P + 1 ∧ J.st = 0 ∧ J.ot = I.ot) ∨ (I.ot = P + 1 ∧ J.ot = 0 ∧ J.st = I.st)) (hw : J.wk = I.wk + (if v = 2 then 1 else 0)) : Inv J := by
  have hl : P < I.b.length := (List.getElem?_eq_some_iff.1 hP).1
  have hc := cnt_set 2 v I.b P 1 hP
  refine ⟨by rw [hb, List.length_set]; exact h.n, by rw [hn.1, hn.2.1, hn.2.2.1, hn.2.2.2]; exact h.nil, by rw [hb]; exact h.ok.set P (by omega), ?_, ?_, ?_, ?_, ?_⟩
  · rcases hp with ⟨h1, h2, h3⟩ | ⟨h1, h2, h3⟩
    · exact .inl h2
    · rcases h.st with h4 | ⟨Q, h4, h5⟩
      · exact .inl (by omega)
      · refine .inr ⟨Q, by omega, ?_⟩
        rw [hb]
        refine set_other h5 (fun e => ?_)
        subst e
        have := h.ne (by omega)
        omega
  · rcases hp with ⟨h1, h2, h3⟩ | ⟨h1, h2, h3⟩
    · rcases h.ot with h4 | ⟨Q, h4, h5⟩
      · exact .inl (by omega)
      · refine .inr ⟨Q, by omega, ?_⟩
        rw [hb]
        refine set_other h5 (fun e => ?_)
        subst e
        have := h.ne (by omega)
        omega
    · exact .inl h2
  · intro e
    rcases hp with ⟨h1, h2, h3⟩ | ⟨h1, h2, h3⟩ <;> omega
  · intro Q hQ
    rw [hb] at hQ
    rcases set_at hQ with ⟨_, e⟩ | ⟨hne, hQ⟩
    · rcases hv with rfl | rfl <;> omega
    · rcases hp with ⟨h1, h2, h3⟩ | ⟨h1, h2, h3⟩
      · rcases h.all Q hQ with h4 | h4
        · omega
        · exact .inr (by omega)
      · rcases h.all Q hQ with h4 | h4
        · exact .inl (by omega)
        · omega
  · rw [hw, h.wk, hb]
    rcases hv with rfl | rfl <;> simp at hc ⊢ <;> omega
theorem known_iff {I : Inn} {P : Nat} (h : P < I.b.length) : knownS I ((P : Int) + 1) = true := by
  unfold knownS; simp; omega
theorem inv_wk {I : Inn} (h : Inv I) : wrap64 (I.wk + 1) = I.wk + 1 := by
  have := cnt_len 2 I.b
  have := h.n
  have := h.wk
  exact wrap_small (by omega)
theorem inv_ran {I : Inn} (h : Inv I) (d : Dl) : Inv (ranS I d) := by
  unfold ranS
  have hs := inv_swap h (swS d)
  split
  · exact hs
  · rename_i h0
    have ho : (outS I d = 1 ∧ I.st ≠ 0) ∨ (outS I d = 2 ∧ I.ot ≠ 0) := by
      unfold outS at h0 ⊢
      split at h0
      · exact absurd rfl h0
      · rename_i e1
        rw [if_neg e1]
        split at h0
        · rename_i e2
          rw [if_pos e2]; exact .inl ⟨rfl, e2.2⟩
        · rename_i e2
          rw [if_neg e2]
          split at h0
          · rename_i e3
            rw [if_pos e3]; exact .inr ⟨rfl, e3.2⟩
          · exact absurd rfl h0
    have fin : ∀ (x : Int), x ≠ 0 → plS I d = x → (((outS I d == 1) != swS d) = true → (swapJ I (swS d)).st = x) → (¬ ((outS I d == 1) != swS d) = true → (swapJ I (swS d)).ot = x) → Inv (dismissS (vacJ (swapJ I (swS d)) (outS I d) (swS d)) (plS I d)) := by
      intro x hx hpl h1 h2
      rw [hpl]
      generalize swapJ I (swS d) = J at hs h1 h2 ⊢
      by_cases hc : ((outS I d == 1) != swS d) = true
      · have hst := h1 hc
        rcases hs.st with h4 | ⟨P, h4, h5⟩
        · omega
        · have hl := (List.getElem?_eq_some_iff.1 h5).1
          have hxP : x = (P : Int) + 1 := by omega
          subst hxP
          have hv : vacJ J (outS I d) (swS d) = { J with st := 0 } := by unfold vacJ; rw [if_pos hc]
          rw [hv]
          have hd : dismissS { J with st := 0 } ((P : Int) + 1) = { J with st := 0, b := J.b.set P 2, wk := wrap64 (J.wk + 1) } := by
            unfold dismissS
            rw [if_pos (show knownS { J with st := 0 } ((P : Int) + 1) = true from known_iff (I := { J with st := 0 }) hl), show ((P : Int) + 1).toNat - 1 = P by omega]
          rw [hd]
          exact inv_leave hs h5 2 (.inl rfl) rfl ⟨rfl, rfl, rfl, rfl⟩ (.inl ⟨by omega, rfl, rfl⟩) (by show wrap64 (J.wk + 1) = _; rw [inv_wk hs]; rfl)
      · have hot := h2 hc
        rcases hs.ot with h4 | ⟨P, h4, h5⟩
        · omega
        · have hl := (List.getElem?_eq_some_iff.1 h5).1
          have hxP : x = (P : Int) + 1 := by omega
          subst hxP
          have hv : vacJ J (outS I d) (swS d) = { J with ot := 0 } := by unfold vacJ; rw [if_neg hc]
          rw [hv]
          have hd : dismissS { J with ot := 0 } ((P : Int) + 1) = { J with ot := 0, b := J.b.set P 2, wk := wrap64 (J.wk + 1) } := by
            unfold dismissS
            rw [if_pos (show knownS { J with ot := 0 } ((P : Int) + 1) = true from known_iff (I := { J with ot := 0 }) hl), show ((P : Int) + 1).toNat - 1 = P by omega]
          rw [hd]
          exact inv_leave hs h5 2 (.inl rfl) rfl ⟨rfl, rfl, rfl, rfl⟩ (.inr ⟨by omega, rfl, rfl⟩) (by show wrap64 (J.wk + 1) = _; rw [inv_wk hs]; rfl)
    rcases ho with ⟨h1, h2⟩ | ⟨h1, h2⟩
    · refine fin I.st h2 (by unfold plS; rw [if_pos h1]) ?_ ?_
      · rw [h1]; cases swS d <;> simp [swapJ]
      · rw [h1]; cases swS d <;> simp [swapJ]
    · refine fin I.ot h2 (by unfold plS; rw [h1]; rfl) ?_ ?_
      · rw [h1]; cases swS d <;> simp [swapJ]
      · rw [h1]; cases swS d <;> simp [swapJ]
theorem inv_open {I : Inn} (h : Inv I) (a c : Int) : Inv (openS I a c).1 := by
  unfold openS
  split
  · exact h
  · rename_i hb
    split
    · exact h
    · rename_i hk
      split
      · exact h
      · rename_i hac
        rw [not_or] at hk
        obtain ⟨x, hx, hxl⟩ := known_nat (show knownS I a = true by simpa using hk.1)
        obtain ⟨y, hy, hyl⟩ := known_nat (show knownS I c = true by simpa using hk.2)
        subst hx hy
        have hxy : x ≠ y := fun e => hac (by rw [e])
        have h0 : ∀ (P : Nat) (u : Int), I.b[P]? = some u → u = 0 := by
          intro P u hu
          have hb' : begunL I.b = false := by simpa using hb
          unfold begunL at hb'
          rw [List.any_eq_false] at hb'
          have := hb' u (List.mem_of_getElem? hu)
          simpa using this
        have hx0 : I.b[x]? = some 0 := by
          have := List.getElem?_eq_getElem hxl
          rw [this]; congr 1; exact h0 x _ this
        have hy0 : I.b[y]? = some 0 := by
          have := List.getElem?_eq_getElem hyl
          rw [this]; congr 1; exact h0 y _ this
        simp only [show ((x : Int) + 1).toNat - 1 = x by omega, show ((y : Int) + 1).toNat - 1 = y by omega]
        have hy1 : (I.b.set x 1)[y]? = some 0 := set_other hy0 (fun e => hxy e.symm)
        have hc1 := cnt_set 2 1 I.b x 0 hx0
        have hc2 := cnt_set 2 1 (I.b.set x 1) y 0 hy1
        refine ⟨by show 2 ≤ ((I.b.set x 1).set y 1).length ∧ _; rw [List.length_set, List.length_set]; exact h.n, h.nil, (h.ok.set x (by omega)).set y (by omega), .inr ⟨x, rfl, ?_⟩, .inr ⟨y, rfl, ?_⟩, ?_, ?_, ?_⟩
        · exact set_other (set_self hxl) hxy
        · exact set_self (by rw [List.length_set]; exact hyl)
        · intro e
          exact absurd e hac
        · intro P hP
          rcases set_at hP with ⟨e, _⟩ | ⟨_, hP⟩
          · subst e; exact .inr rfl
          · rcases set_at hP with ⟨e, _⟩ | ⟨_, hP⟩
            · subst e; exact .inl rfl
            · exact absurd (h0 P 1 hP) (by decide)
        · show I.wk = _
          rw [h.wk]
          simp at hc1 hc2
          show ((cnt 2 I.b : Nat) : Int) = ((cnt 2 ((I.b.set x 1).set y 1) : Nat) : Int)
          omega
theorem vac_cases {I : Inn} (h : vacantS I = true) : I.st = 0 ∨ I.ot = 0 := by
  unfold vacantS at h
  simp at h
  exact h.2
theorem inv_enter {I : Inn} (h : Inv I) (p : Int) : Inv (enterS I p).1 := by
  unfold enterS
  split
  · rename_i hm
    obtain ⟨hk, h1, h2, hv⟩ := may_zero hm
    obtain ⟨P, hp, hPl⟩ := known_nat hk
    subst hp
    rw [show ((P : Int) + 1).toNat - 1 = P by omega] at h1 h2 ⊢
    have hb := bAt_some hPl
    have hc := cnt_set 2 1 I.b P _ hb
    rw [if_neg h2] at hc
    simp at hc
    show Inv (entJ I P)
    unfold entJ
    have oth : ∀ (Q : Nat), I.b[Q]? = some 1 → Q ≠ P := fun Q hQ e => by subst e; rw [hb] at hQ; injection hQ with hQ; exact h1 hQ
    split
    · rename_i h0
      refine ⟨by show 2 ≤ (I.b.set P 1).length ∧ _; rw [List.length_set]; exact h.n, h.nil, h.ok.set P (by omega), .inr ⟨P, rfl, set_self hPl⟩, ?_, ?_, ?_, ?_⟩
      · rcases h.ot with h4 | ⟨Q, h4, h5⟩
        · exact .inl h4
        · exact .inr ⟨Q, h4, set_other h5 (oth Q h5)⟩
      · intro e
        have e' : (P : Int) + 1 = I.ot := e
        rcases h.ot with h4 | ⟨Q, h4, h5⟩
        · omega
        · exact absurd (show Q = P by omega) (oth Q h5)
      · intro Q hQ
        rcases set_at hQ with ⟨e, _⟩ | ⟨_, hQ⟩
        · subst e; exact .inl rfl
        · rcases h.all Q hQ with h4 | h4
          · omega
          · exact .inr h4
      · show I.wk = _
        rw [h.wk]
        show ((cnt 2 I.b : Nat) : Int) = ((cnt 2 (I.b.set P 1) : Nat) : Int)
        omega
    · rename_i h0
      have ho : I.ot = 0 := by rcases vac_cases hv with h4 | h4; exact absurd h4 h0; exact h4
      refine ⟨by show 2 ≤ (I.b.set P 1).length ∧ _; rw [List.length_set]; exact h.n, h.nil, h.ok.set P (by omega), ?_, .inr ⟨P, rfl, set_self hPl⟩, ?_, ?_, ?_⟩
      · rcases h.st with h4 | ⟨Q, h4, h5⟩
        · exact .inl h4
        · exact .inr ⟨Q, h4, set_other h5 (oth Q h5)⟩
      · intro e
        have e' : I.st = (P : Int) + 1 := e
        rcases h.st with h4 | ⟨Q, h4, h5⟩
        · omega
        · exact absurd (show Q = P by omega) (oth Q h5)
      · intro Q hQ
        rcases set_at hQ with ⟨e, _⟩ | ⟨_, hQ⟩
        · subst e; exact .inr rfl
        · rcases h.all Q hQ with h4 | h4
          · exact .inl h4
          · omega
      · show I.wk = _
        rw [h.wk]
        show ((cnt 2 I.b : Nat) : Int) = ((cnt 2 (I.b.set P 1) : Nat) : Int)
        omega
  · exact h
theorem inv_timeout {I : Inn} (h : Inv I) (p : Int) : Inv (timeoutS I p).1 := by
  unfold timeoutS
  split
  · rename_i hm
    obtain ⟨hk, h1, h2, hv⟩ := may_zero hm
    obtain ⟨P, hp, hPl⟩ := known_nat hk
    subst hp
    rw [show ((P : Int) + 1).toNat - 1 = P by omega] at h1 h2
    have hb := bAt_some hPl
    have hc := cnt_set 2 2 I.b P _ hb
    rw [if_neg h2] at hc
    simp at hc
    have oth : ∀ (Q : Nat), I.b[Q]? = some 1 → Q ≠ P := fun Q hQ e => by subst e; rw [hb] at hQ; injection hQ with hQ; exact h1 hQ
    show Inv (dismissS I ((P : Int) + 1))
    unfold dismissS
    rw [if_pos hk, show ((P : Int) + 1).toNat - 1 = P by omega]
    refine ⟨by show 2 ≤ (I.b.set P 2).length ∧ _; rw [List.length_set]; exact h.n, h.nil, h.ok.set P (by omega), ?_, ?_, h.ne, ?_, ?_⟩
    · rcases h.st with h4 | ⟨Q, h4, h5⟩
      · exact .inl h4
      · exact .inr ⟨Q, h4, set_other h5 (oth Q h5)⟩
    · rcases h.ot with h4 | ⟨Q, h4, h5⟩
      · exact .inl h4
      · exact .inr ⟨Q, h4, set_other h5 (oth Q h5)⟩
    · intro Q hQ
      rcases set_at hQ with ⟨_, e⟩ | ⟨_, hQ⟩
      · omega
      · exact h.all Q hQ
    · show wrap64 (I.wk + 1) = _
      rw [inv_wk h, h.wk]
      show ((cnt 2 I.b : Nat) : Int) + 1 = ((cnt 2 (I.b.set P 2) : Nat) : Int)
      omega
  · exact h
theorem inv_retire {I : Inn} (h : Inv I) (p : Int) (hurt : Bool) : Inv (retireS I p hurt).1 := by
  unfold retireS
  split
  · exact h
  rename_i hk
  split
  · exact h
  rename_i hv
  rw [not_or] at hv
  split
  · exact h
  rename_i hne
  have hp2 : p = I.st ∨ p = I.ot := by
    by_cases h1 : p = I.st
    · exact .inl h1
    · by_cases h2 : p = I.ot
      · exact .inr h2
      · exact absurd ⟨h1, h2⟩ hne
  split
  · exact h
  obtain ⟨P, hp, hPl⟩ := known_nat (show knownS I p = true by simpa using hk)
  subst hp
  have hb1 : I.b[P]? = some 1 := by
    rcases hp2 with h1 | h1
    · rcases h.st with h4 | ⟨Q, h4, h5⟩
      · exact absurd h4 hv.1
      · obtain rfl : Q = P := by omega
        exact h5
    · rcases h.ot with h4 | ⟨Q, h4, h5⟩
      · exact absurd h4 hv.2
      · obtain rfl : Q = P := by omega
        exact h5
  have hpl : ∀ (b : List Int) (wk : Int), (I.st = (P : Int) + 1 ∧ ({ retJ I ((P : Int) + 1) with b := b, wk := wk } : Inn).st = 0 ∧ ({ retJ I ((P : Int) + 1) with b := b, wk := wk } : Inn).ot = I.ot) ∨ (I.ot = (P : Int) + 1 ∧ ({ retJ I ((P : Int) + 1) with b := b, wk := wk } : Inn).ot = 0 ∧ ({ retJ I ((P : Int) + 1) with b := b, wk := wk } : Inn).st = I.st) := by
    intro b wk
    unfold retJ
    by_cases h1 : (P : Int) + 1 = I.st
    · rw [if_pos h1]; exact .inl ⟨h1.symm, rfl, rfl⟩
    · rw [if_neg h1]
      rcases hp2 with h2 | h2
      · exact absurd h2 h1
      · exact .inr ⟨h2.symm, rfl, rfl⟩
  have hret : (retJ I ((P : Int) + 1)).b = I.b ∧ (retJ I ((P : Int) + 1)).wk = I.wk ∧ (retJ I ((P : Int) + 1)).bo = I.bo ∧ (retJ I ((P : Int) + 1)).be = I.be ∧ (retJ I ((P : Int) + 1)).bd = I.bd ∧ (retJ I ((P : Int) + 1)).sb = I.sb := by
    unfold retJ; split <;> exact ⟨rfl, rfl, rfl, rfl, rfl, rfl⟩
  obtain ⟨r1, r2, r3, r4, r5, r6⟩ := hret
  split
  · show Inv { retJ I ((P : Int) + 1) with b := I.b.set (((P : Int) + 1).toNat - 1) 3 }
    rw [show ((P : Int) + 1).toNat - 1 = P by omega]
    refine inv_leave h hb1 3 (.inr rfl) rfl ⟨r3, r4, r5, r6⟩ ?_ (by show (retJ I ((P : Int) + 1)).wk = _; rw [r2]; simp)
    have := hpl (I.b.set P 3) I.wk
    rw [← r2] at this
    exact this
  · show Inv (dismissS (retJ I ((P : Int) + 1)) ((P : Int) + 1))
    unfold dismissS
    rw [if_pos (known_iff (I := retJ I ((P : Int) + 1)) (by rw [r1]; exact hPl)), show ((P : Int) + 1).toNat - 1 = P by omega]
    refine inv_leave h hb1 2 (.inl rfl) (by show (retJ I ((P : Int) + 1)).b.set P 2 = _; rw [r1]) ⟨r3, r4, r5, r6⟩ (hpl _ _) (by show wrap64 ((retJ I ((P : Int) + 1)).wk + 1) = _; rw [r2, inv_wk h]; rfl)
theorem inv_do {I : Inn} (h : Inv I) (a : Ac) : Inv (doS I a).1 := by
  unfold doS
  split
  · exact inv_open h _ _
  · split
    · exact inv_ran h _
    · split
      · exact inv_change h
      · split
        · exact inv_enter h _
        · split
          · exact inv_timeout h _
          · exact inv_retire h _ _
theorem inv_new (n : Nat) (h : 2 ≤ n ∧ n ≤ 11) : Inv ⟨zeroR, 0, 0, 0, List.replicate n 0, [], [], [], []⟩ := by
  have hz : ∀ (P : Nat) (u : Int), (List.replicate n (0 : Int))[P]? = some u → u = 0 := by
    intro P u hu
    exact (List.mem_replicate.1 (List.mem_of_getElem? hu)).2
  refine ⟨by show 2 ≤ (List.replicate n (0 : Int)).length ∧ _; rw [List.length_replicate]; exact h, ⟨rfl, rfl, rfl, rfl⟩, fun y hy => .inl (List.mem_replicate.1 hy).2, .inl rfl, .inl rfl, fun _ => rfl, fun P hP => absurd (hz P 1 hP) (by decide), ?_⟩
  show (0 : Int) = ((cnt 2 (List.replicate n 0) : Nat) : Int)
  rw [cnt_zero 2 _ (fun y hy e => by rw [(List.mem_replicate.1 hy).2] at e; cases e)]
  rfl
theorem two_places {I : Inn} (h : Inv I) : sort2 (plcL I.st I.ot) = batL 0 I.b := by
  unfold plcL sort2
  rcases h.st with hs | ⟨P, hs, hP⟩
  · rcases h.ot with ho | ⟨Q, ho, hQ⟩
    · rw [hs, ho, batL_none I.b 0 (fun R e => by rcases h.all R e with h4 | h4 <;> omega)]
      simp
    · rw [batL_one I.b 0 Q hQ (fun R e => by rcases h.all R e with h4 | h4 <;> omega), if_neg (by omega), if_pos (by omega), ho]
      simp
  · rcases h.ot with ho | ⟨Q, ho, hQ⟩
    · rw [batL_one I.b 0 P hP (fun R e => by rcases h.all R e with h4 | h4 <;> omega), if_pos (by omega), if_neg (by omega), hs]
      simp
    · have hne : P ≠ Q := fun e => by subst e; have := h.ne (by omega); omega
      rw [if_pos (by omega), if_pos (by omega), hs, ho]
      rcases Nat.lt_or_ge P Q with hlt | hge
      · rw [batL_two I.b 0 P Q hlt hP hQ (fun R e => by rcases h.all R e with h4 | h4 <;> omega)]
        simp [List.mergeSort, List.MergeSort.Internal.splitInTwo, List.merge]
        omega
      · rw [batL_two I.b 0 Q P (by omega) hQ hP (fun R e => by rcases h.all R e with h4 | h4 <;> omega)]
        simp [List.mergeSort, List.MergeSort.Internal.splitInTwo, List.merge]
        omega
theorem two_vacant {I : Inn} (h : Inv I) : vacantS I = (decide ((plcL I.st I.ot).length < 2) && decide (0 < (batL 0 I.b).length + cnt 2 I.b + cnt 3 I.b)) := by
  unfold vacantS
  rw [begun_cnt h.ok, batL_len, Bool.and_comm]
  congr 1
  unfold plcL
  by_cases h1 : I.st = 0 <;> by_cases h2 : I.ot = 0 <;> simp [h1, h2]
end Go.Proofs.Ytjlmlafiojpjmaa
