/-
  Chapter 54: the text of a register is read back; both ways of reading answer alike. Plain.
-/
import Derived.Test.YtpninpohligomaaGreatDoorSpT54
set_option linter.unusedSimpArgs false
set_option linter.unusedVariables false
namespace Go.Proofs.YtpninpohligomaaGreatDoor
open Go.RowKit
theorem ckW_okay {ws : List Wn} (h : ckW ws = 0) : ws.length ≤ 32 ∧ ∀ x ∈ ws, okW x := by
  unfold ckW at h
  split at h
  · cases h
  refine ⟨by omega, fun x hx => ?_⟩
  obtain ⟨i, hi, rfl⟩ := List.getElem_of_mem hx
  have h0 : wErr ws i = 0 := by
    cases hs : scan (wErr ws) ws.length with
    | none => exact scan_inv hs i hi
    | some k => rw [hs] at h; exact absurd h (scan_ne hs)
  unfold wErr at h0
  rw [List.getElem?_eq_getElem hi] at h0
  simp only [] at h0
  split at h0
  · cases h0
  · rename_i h1
    simp only [Bool.or_eq_true, Bool.not_eq_true', not_or, Bool.not_eq_false] at h1
    exact ⟨isDay_rng h1.1, isDay_rng h1.2⟩
theorem ckT_okay {ws : List Wn} {l : List Tr} (h : (ckT ws l).2 = 0) : (ws.length ≤ 32 ∧ ∀ x ∈ ws, okW x) ∧ l.length ≤ 2000 ∧ ∀ z ∈ l, okT z := by
  unfold ckT at h
  by_cases hw : ckW ws = 0
  · rw [if_neg (by simpa using hw)] at h
    refine ⟨ckW_okay hw, ?_⟩
    by_cases hl : 2000 < l.length
    · rw [if_pos hl] at h; cases h
    rw [if_neg hl] at h
    refine ⟨by omega, fun z hz => ?_⟩
    obtain ⟨i, hi, rfl⟩ := List.getElem_of_mem hz
    have h0 : tErr ws l i = 0 := by
      cases hs : scan (tErr ws l) l.length with
      | none => exact scan_inv hs i hi
      | some k => rw [hs] at h; exact absurd h (scan_ne hs)
    unfold tErr at h0
    rw [List.getElem?_eq_getElem hi] at h0
    generalize l[i] = z at h0
    simp only [] at h0
    have h1 : err1 l i z = 0 := by
      by_cases h1 : err1 l i z = 0
      · exact h1
      · rw [if_neg h1] at h0; exact h0
    unfold err1 at h1
    split at h1
    · cases h1
    split at h1
    · cases h1
    rename_i h2 h3
    simp only [Bool.or_eq_true, Bool.and_eq_true, Bool.not_eq_true', not_or, not_and, Bool.not_eq_false] at h2 h3
    refine ⟨h2.1, ?_, isDay_rng h3⟩
    cases he : isE z.t
    · exact .inr (h2.2 he)
    · exact .inl rfl
  · rw [if_pos hw] at h; exact absurd h hw
/-- An entry of fields. -/
def itemT (f : List (List UInt8)) : Option (Wn ⊕ Tr) :=
  if (numP (f.getLastD []) 0 1000000).2 ≠ 0 then none
  else if f.headD [] = sWIN ∧ f.length = 3 then
    (if (numP (f.getD 1 []) 0 1000000).2 ≠ 0 then none else some (.inl ⟨(numP (f.getD 1 []) 0 1000000).1, (numP (f.getLastD []) 0 1000000).1⟩))
  else if f.headD [] = sJOIN ∧ f.length = 4 then some (.inr ⟨baT (f.getD 1 []), baT (f.getD 2 []), (numP (f.getLastD []) 0 1000000).1⟩)
  else if f.headD [] = sLEAVE ∧ f.length = 3 then some (.inr ⟨baT (f.getD 1 []), ⟨#[]⟩, (numP (f.getLastD []) 0 1000000).1⟩)
  else none
def addI : Option (Wn ⊕ Tr) → Option (List Wn × List Tr) → Option (List Wn × List Tr)
  | some (.inl x), some (ws, l) => some (x :: ws, l)
  | some (.inr z), some (ws, l) => some (ws, z :: l)
  | _, _ => none
/-- The windows and entries of rows. -/
def rowsT : List (List UInt8) → Option (List Wn × List Tr)
  | [] => some ([], [])
  | r :: t => addI (itemT (splitC 32 r)) (rowsT t)
/-- One after another. -/
def catI : Option (List Wn × List Tr) → Option (List Wn × List Tr) → Option (List Wn × List Tr)
  | some (a, b), some (c, d) => some (a ++ c, b ++ d)
  | _, _ => none
theorem rowsT_append : ∀ (a b : List (List UInt8)), rowsT (a ++ b) = catI (rowsT a) (rowsT b)
  | [], b => by
    rw [List.nil_append, rowsT]
    cases rowsT b with
    | none => rfl
    | some q => rfl
  | r :: t, b => by
    rw [List.cons_append, rowsT, rowsT, rowsT_append t b]
    cases itemT (splitC 32 r) with
    | none => rfl
    | some i => cases i <;> cases rowsT t <;> cases rowsT b <;> rfl
theorem rowsT_one (r : List UInt8) : rowsT [r] = match itemT (splitC 32 r) with
    | some (.inl x) => some ([x], [])
    | some (.inr z) => some ([], [z])
    | none => none := by
  rw [rowsT, rowsT]
  cases itemT (splitC 32 r) with
  | none => rfl
  | some i => cases i <;> rfl
theorem rowsT_win {a : List (List UInt8)} {r : List UInt8} {ws : List Wn} {l : List Tr} {x : Wn} (h : rowsT a = some (ws, l)) (hz : itemT (splitC 32 r) = some (.inl x)) : rowsT (a ++ [r]) = some (ws ++ [x], l) := by
  rw [rowsT_append, h, rowsT_one, hz]; simp [catI]
theorem rowsT_tr {a : List (List UInt8)} {r : List UInt8} {ws : List Wn} {l : List Tr} {x : Tr} (h : rowsT a = some (ws, l)) (hz : itemT (splitC 32 r) = some (.inr x)) : rowsT (a ++ [r]) = some (ws, l ++ [x]) := by
  rw [rowsT_append, h, rowsT_one, hz]; simp [catI]
theorem rowsT_bad1 {a : List (List UInt8)} {r : List UInt8} (hz : itemT (splitC 32 r) = none) : rowsT (a ++ [r]) = none := by
  rw [rowsT_append, rowsT_one, hz]
  cases rowsT a <;> rfl
theorem rowsT_badp {a b : List (List UInt8)} (h : rowsT a = none) : rowsT (a ++ b) = none := by
  rw [rowsT_append, h]; rfl
theorem baT_small {x : List UInt8} {n : Nat} (h : x.length ≤ n) : (baT x).size ≤ n := by rw [baT_size]; exact h
theorem rowsT_size {n : Nat} : ∀ {R : List (List UInt8)} {ws : List Wn} {l : List Tr}, rowsT R = some (ws, l) → (∀ r ∈ R, r.length ≤ n) → (∀ z ∈ l, z.p.size ≤ n ∧ z.t.size ≤ n) ∧ ws.length + l.length = R.length
  | [], ws, l, h, _ => by
    rw [rowsT] at h
    injection h with h
    injection h with h1 h2
    subst h1 h2
    simp
  | r :: t, ws, l, h, hn => by
    rw [rowsT] at h
    have hr := hn r List.mem_cons_self
    have hsm : ∀ k, ((splitC 32 r).getD k []).length ≤ n := fun k => by
      rw [List.getD_eq_getElem?_getD]
      cases hk : (splitC 32 r)[k]? with
      | none => simp
      | some x =>
        have : x.length ≤ r.length := (splitC_small 32 r).1 x (List.mem_of_getElem? hk)
        simp; omega
    cases ht : rowsT t with
    | none =>
      rw [ht] at h
      cases hi : itemT (splitC 32 r) with
      | none => rw [hi] at h; cases h
      | some i => rw [hi] at h; cases i <;> cases h
    | some q =>
      obtain ⟨ws', l'⟩ := q
      obtain ⟨i1, i2⟩ := rowsT_size (n := n) ht (fun x hx => hn x (List.mem_cons_of_mem _ hx))
      rw [ht] at h
      cases hi : itemT (splitC 32 r) with
      | none => rw [hi] at h; cases h
      | some i =>
        rw [hi] at h
        cases i with
        | inl x =>
          injection h with h
          injection h with h1 h2
          subst h1 h2
          exact ⟨i1, by simp; omega⟩
        | inr z =>
          injection h with h
          injection h with h1 h2
          subst h1 h2
          refine ⟨fun y hy => ?_, by simp; omega⟩
          rcases List.mem_cons.1 hy with rfl | hy
          · unfold itemT at hi
            split at hi
            · cases hi
            split at hi
            · split at hi <;> cases hi
            split at hi
            · injection hi with hi
              injection hi with hi
              subst hi
              exact ⟨baT_small (hsm 1), baT_small (hsm 2)⟩
            split at hi
            · injection hi with hi
              injection hi with hi
              subst hi
              exact ⟨baT_small (hsm 1), Nat.zero_le _⟩
            · cases hi
          · exact i1 y hy
/-- What Parse answers, by the rows. -/
def ParT (R : List (List UInt8)) (s : List UInt8) : List Wn × List Tr × Int := match rowsT R with
  | none => ([], [], 4)
  | some (ws, l) => if (TxtT ws l).2 = 0 ∧ (TxtT ws l).1 = s then (ws, l, 0) else ([], [], 4)
theorem tok_dc (n : Int) : Tok (dcB n) := tok_dec _
theorem tok_win : Tok sWIN := by unfold Tok; decide
theorem tok_join : Tok sJOIN := by unfold Tok; decide
theorem tok_leave : Tok sLEAVE := by unfold Tok; decide
theorem rowW_ten (x : Wn) : (10 : UInt8) ∉ rowW x := tok_app tok_win.2 (tok_app (tok_dc _).2 (tok_dc _).2)
theorem rowT_ten {z : Tr} (h : okT z) : (10 : UInt8) ∉ rowT z := by
  unfold rowT
  split
  · exact tok_app tok_leave.2 (tok_app (tok_name h.1).2 (tok_dc _).2)
  · rename_i he
    exact tok_app tok_join.2 (tok_app (tok_name h.1).2 (tok_app (tok_name (h.2.1.resolve_left he)).2 (tok_dc _).2))
theorem itemT_W {x : Wn} (h : okW x) : itemT (splitC 32 (rowW x)) = some (.inl x) := by
  unfold rowW
  rw [split_three tok_win (tok_dc _) (tok_dc _)]
  unfold itemT
  have e1 := numP_dc (n := x.f) (lo := 0) (hi := 1000000) h.1.1 h.1.1 h.1.2
  have e2 := numP_dc (n := x.t) (lo := 0) (hi := 1000000) h.2.1 h.2.1 h.2.2
  simp [e1, e2]
theorem itemT_T {z : Tr} (h : okT z) : itemT (splitC 32 (rowT z)) = some (.inr z) := by
  have e2 := numP_dc (n := z.d) (lo := 0) (hi := 1000000) h.2.2.1 h.2.2.1 h.2.2.2
  unfold rowT
  split
  · rename_i he
    rw [split_three tok_leave (tok_name h.1) (tok_dc _)]
    unfold itemT
    have ht := isE_eq.1 he
    obtain ⟨p, t, d⟩ := z
    simp only [] at ht e2
    subst ht
    simp [e2, sLEAVE, sWIN, sJOIN, baT]
  · rename_i he
    rw [split_four tok_join (tok_name h.1) (tok_name (h.2.1.resolve_left he)) (tok_dc _)]
    unfold itemT
    simp [e2, sLEAVE, sWIN, sJOIN, baT]
theorem rowsT_W : ∀ {ws : List Wn} {b : List (List UInt8)}, (∀ x ∈ ws, okW x) → rowsT (ws.map rowW ++ b) = catI (some (ws, [])) (rowsT b)
  | [], b, _ => by
    rw [List.map_nil, List.nil_append]
    cases rowsT b <;> rfl
  | x :: r, b, h => by
    rw [List.map_cons, List.cons_append, rowsT, itemT_W (h x List.mem_cons_self), rowsT_W (ws := r) (fun y hy => h y (List.mem_cons_of_mem _ hy))]
    cases rowsT b <;> rfl
theorem rowsT_T : ∀ {l : List Tr}, (∀ x ∈ l, okT x) → rowsT (l.map rowT) = some ([], l)
  | [], _ => rfl
  | x :: r, h => by
    rw [List.map_cons, rowsT, itemT_T (h x List.mem_cons_self), rowsT_T (l := r) (fun y hy => h y (List.mem_cons_of_mem _ hy))]; rfl
theorem par_back {ws : List Wn} {l : List Tr} (h : (ckT ws l).2 = 0) : ParT (rowsR (splitC 10 (txtW ws ++ txtT l))) (txtW ws ++ txtT l) = (ws, l, 0) := by
  obtain ⟨⟨_, h1⟩, _, h2⟩ := ckT_okay h
  have hT : TxtT ws l = (txtW ws ++ txtT l, 0) := by unfold TxtT; rw [if_neg (by simpa using h)]
  have e : txtW ws ++ txtT l = endR (ws.map rowW ++ l.map rowT) := by unfold txtW txtT; rw [endR_append]
  have hr : rowsR (splitC 10 (endR (ws.map rowW ++ l.map rowT))) = ws.map rowW ++ l.map rowT := by
    refine rows_rows (fun r hr => ?_)
    rcases List.mem_append.1 hr with hr | hr
    · obtain ⟨z, hz, rfl⟩ := List.mem_map.1 hr; exact rowW_ten z
    · obtain ⟨z, hz, rfl⟩ := List.mem_map.1 hr; exact rowT_ten (h2 z hz)
  rw [e, hr, ← e]
  unfold ParT
  rw [rowsT_W h1, rowsT_T h2]
  simp only [catI, List.append_nil, List.nil_append]
  rw [hT, if_pos ⟨rfl, rfl⟩]
theorem par_cases (R : List (List UInt8)) (s : List UInt8) : ParT R s = ([], [], 4) ∨ ∃ ws l, ParT R s = (ws, l, 0) ∧ (ckT ws l).2 = 0 ∧ txtW ws ++ txtT l = s := by
  unfold ParT
  cases rowsT R with
  | none => exact .inl rfl
  | some q =>
    obtain ⟨ws, l⟩ := q
    simp only []
    split
    · rename_i h
      have hck : (ckT ws l).2 = 0 := by
        by_cases h0 : (ckT ws l).2 = 0
        · exact h0
        · exfalso
          have : (TxtT ws l).2 = (ckT ws l).2 := by unfold TxtT; rw [if_pos h0]
          exact h0 (by rw [← this]; exact h.1)
      have hT : TxtT ws l = (txtW ws ++ txtT l, 0) := by unfold TxtT; rw [if_neg (by simpa using hck)]
      exact .inr ⟨ws, l, rfl, hck, by rw [← h.2, hT]⟩
    · exact .inl rfl
theorem par_same (s : List UInt8) : ParT (rowsR (splitC 10 s)) s = ParT (splitC 10 s).dropLast s := by
  by_cases h : s = [] ∨ s.getLast? = some 10
  · rw [rowsR_end (splitC_last h)]
  · have bad : ∀ R, ParT R s = ([], [], 4) := fun R => by
      rcases par_cases R s with h1 | ⟨ws, l, _, _, h2⟩
      · exact h1
      · exfalso
        refine h ?_
        rw [← h2]
        unfold txtW txtT
        rw [← endR_append]
        exact flat_last _
    rw [bad, bad]
theorem nameB_16 {s : ByteArray} (h : nameB s = true) : s.size ≤ 16 := by unfold nameB at h; simp at h; omega
theorem rowW_len {x : Wn} (h : okW x) : (rowW x ++ [10]).length ≤ 23 := by
  have a := dcB_len7 h.1.2
  have b := dcB_len7 h.2.2
  unfold rowW sWIN
  simp only [List.length_append, List.length_cons, List.length_nil]
  omega
theorem isE_size {s : ByteArray} (h : isE s = true) : s.size = 0 := by rw [isE_eq.1 h]; rfl
theorem rowT_len {z : Tr} (h : okT z) : (rowT z ++ [10]).length ≤ 47 := by
  have a := dcB_len7 h.2.2.2
  have b : z.p.data.toList.length ≤ 16 := by have := nameB_16 h.1; simpa using this
  have c : z.t.data.toList.length ≤ 16 := by
    have : z.t.size ≤ 16 := by
      rcases h.2.1 with h1 | h1
      · rw [isE_size h1]; omega
      · exact nameB_16 h1
    simpa using this
  unfold rowT sLEAVE sJOIN
  split <;> simp only [List.length_append, List.length_cons, List.length_nil] <;> omega
theorem endR_len {n : Nat} : ∀ {R : List (List UInt8)}, (∀ r ∈ R, (r ++ [10]).length ≤ n) → (endR R).length ≤ n * R.length
  | [], _ => by simp [endR]
  | r :: t, h => by
    have h1 := h r List.mem_cons_self
    have h2 := endR_len (R := t) (fun x hx => h x (List.mem_cons_of_mem _ hx))
    unfold endR at h2 ⊢
    rw [List.flatMap_cons, List.length_append, List.length_cons, Nat.mul_succ]
    omega
theorem txtW_len {ws : List Wn} (h : ∀ x ∈ ws, okW x) : (txtW ws).length ≤ 23 * ws.length := by
  have := endR_len (n := 23) (R := ws.map rowW) (fun r hr => by obtain ⟨z, hz, rfl⟩ := List.mem_map.1 hr; exact rowW_len (h z hz))
  rw [List.length_map] at this
  exact this
theorem txtT_len {l : List Tr} (h : ∀ x ∈ l, okT x) : (txtT l).length ≤ 47 * l.length := by
  have := endR_len (n := 47) (R := l.map rowT) (fun r hr => by obtain ⟨z, hz, rfl⟩ := List.mem_map.1 hr; exact rowT_len (h z hz))
  rw [List.length_map] at this
  exact this
end Go.Proofs.YtpninpohligomaaGreatDoor
