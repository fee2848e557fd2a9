/-
  Chapter 04 in plain Lean: overs, balls, texts; and the way back.
-/
import Derived.Test.YtdbiihfoafoljaaGreatDoorNumP
set_option linter.unusedSimpArgs false
set_option linter.unusedVariables false
namespace Go.Proofs.YtdbiihfoafoljaaGreatDoor

/-- The first point. -/
def dotAt : List UInt8 → Option Nat
  | [] => none
  | c :: r => if c = 46 then some 0 else (dotAt r).map (· + 1)
theorem index_dot : ∀ l : List UInt8, Lib.index l [46] = match dotAt l with | some i => (i : Int) | none => -1
  | [] => by simp [Lib.index, dotAt]
  | c :: r => by
    by_cases h : c = 46
    · subst h; simp [Lib.index, dotAt, List.isPrefixOf]
    · have h' : ¬ (46 : UInt8) = c := fun e => h e.symm
      have e1 : Lib.index (c :: r) [46] = if Lib.index r [46] == -1 then -1 else Lib.index r [46] + 1 := by
        rw [Lib.index, if_neg (by simp [List.isPrefixOf, h'])]
      have e2 : dotAt (c :: r) = (dotAt r).map (· + 1) := by rw [dotAt, if_neg h]
      rw [e1, e2, index_dot r]
      cases dotAt r with
      | none => rfl
      | some i =>
        have : ((i : Int) == -1) = false := by rw [beq_eq_false_iff_ne]; omega
        simp [this]
theorem dotAt_lt : ∀ {l : List UInt8} {i : Nat}, dotAt l = some i → i < l.length
  | [], i, h => by simp [dotAt] at h
  | c :: r, i, h => by
    unfold dotAt at h
    split at h
    · simp only [Option.some.injEq] at h; subst h; simp
    · cases hr : dotAt r with
      | none => rw [hr] at h; simp at h
      | some j =>
        rw [hr] at h
        simp only [Option.map_some, Option.some.injEq] at h
        subst h
        have := dotAt_lt hr
        simp; omega
theorem dotAt_app : ∀ (a b : List UInt8), a.all digB = true → dotAt (a ++ 46 :: b) = some a.length
  | [], b, _ => by simp [dotAt]
  | c :: r, b, h => by
    rw [List.all_cons, Bool.and_eq_true] at h
    have hc : ¬ c = 46 := by rintro rfl; exact absurd h.1 (by decide)
    rw [List.cons_append]
    unfold dotAt
    rw [if_neg hc, dotAt_app r b h.2]
    simp
theorem dotAt_first : ∀ (l : List UInt8) (k : Nat), (∀ j, j < k → l[j]? ≠ some 46) → l[k]? = some 46 → dotAt l = some k
  | [], k, _, h => by simp at h
  | c :: r, 0, _, h => by simp at h; subst h; simp [dotAt]
  | c :: r, k + 1, hn, h => by
    have h0 := hn 0 (by omega)
    have hc : ¬ c = 46 := by rintro rfl; simp at h0
    unfold dotAt
    rw [if_neg hc, dotAt_first r k (fun j hj => by have := hn (j + 1) (by omega); simpa using this) (by simpa using h)]
    rfl
theorem dotAt_none : ∀ (l : List UInt8), (∀ j, j < l.length → l[j]? ≠ some 46) → dotAt l = none
  | [], _ => rfl
  | c :: r, hn => by
    have h0 := hn 0 (by simp)
    have hc : ¬ c = 46 := by rintro rfl; simp at h0
    unfold dotAt
    rw [if_neg hc, dotAt_none r (fun j hj => by have := hn (j + 1) (by simpa using hj); simpa using this)]
    rfl

/-! What the chapter's functions answer. -/
def knownB (per : Int) : Bool := decide (1 ≤ per) && decide (per ≤ 8)
def numberB (n : Int) : Bool := decide (0 ≤ n) && decide (n ≤ 1000000)
def ofP (balls per : Int) : Int × Int := if knownB per && numberB balls then (balls / per, balls % per) else (0, 0)
def ballsP (over rest per : Int) : Int × Int := if knownB per && (decide (0 ≤ over) && decide (over ≤ 100000)) && (decide (0 ≤ rest) && decide (rest < per)) then (over * per + rest, 0) else (0, 2)
def textP (balls per : Int) : List UInt8 × Int := if knownB per && numberB balls then (Lib.decDigits (balls / per).toNat ++ 46 :: Lib.decDigits (balls % per).toNat, 0) else ([], 2)
def parseP (l : List UInt8) (per : Int) : Int × Int :=
  if knownB per then
    match dotAt l with
    | some i =>
      if (numP (l.take i) 0 1000000).2 = 0 ∧ (numP (l.drop (i + 1)) 0 (per - 1)).2 = 0 ∧ (numP (l.take i) 0 1000000).1 * per + (numP (l.drop (i + 1)) 0 (per - 1)).1 ≤ 1000000
      then ((numP (l.take i) 0 1000000).1 * per + (numP (l.drop (i + 1)) 0 (per - 1)).1, 0) else (0, 4)
    | none => (0, 4)
  else (0, 2)

/-! Numerals. -/
theorem decDigits_small {u : Nat} (h : u < 10) : Lib.decDigits u = [UInt8.ofNat (48 + u)] := by rw [Lib.decDigits, dif_pos h]
theorem decDigits_big {u : Nat} (h : ¬ u < 10) : Lib.decDigits u = Lib.decDigits (u / 10) ++ [UInt8.ofNat (48 + u % 10)] := by rw [Lib.decDigits, dif_neg h]
theorem dig_toNat {d : Nat} (h : d < 10) : (UInt8.ofNat (48 + d)).toNat = 48 + d := by rw [UInt8.toNat_ofNat']; omega
theorem digB_dig {d : Nat} (h : d < 10) : digB (UInt8.ofNat (48 + d)) = true := by unfold digB; rw [dig_toNat h]; simp; omega
theorem digB_one {d : Nat} (h : d < 10) : [UInt8.ofNat (48 + d)].all digB = true := by rw [List.all_cons, digB_dig h]; rfl
theorem decDigits_digs (u : Nat) : (Lib.decDigits u).all digB = true := by
  induction u using Nat.strongRecOn with
  | _ u ih =>
    by_cases h : u < 10
    · rw [decDigits_small h]; exact digB_one h
    · rw [decDigits_big h, List.all_append, ih _ (by omega), digB_one (Nat.mod_lt u (by omega))]; rfl
theorem natD_app : ∀ (a : List UInt8) (acc : Nat) (b : List UInt8), natD acc (a ++ b) = natD (natD acc a) b
  | [], _, _ => rfl
  | c :: r, acc, b => natD_app r (acc * 10 + (c.toNat - 48)) b
theorem natD_dec (u : Nat) : natD 0 (Lib.decDigits u) = u := by
  induction u using Nat.strongRecOn with
  | _ u ih =>
    by_cases h : u < 10
    · rw [decDigits_small h]; show 0 * 10 + ((UInt8.ofNat (48 + u)).toNat - 48) = u; rw [dig_toNat h]; omega
    · rw [decDigits_big h, natD_app, ih _ (by omega)]; show u / 10 * 10 + ((UInt8.ofNat (48 + u % 10)).toNat - 48) = u; rw [dig_toNat (Nat.mod_lt u (by omega))]; omega
theorem decDigits_ne (u : Nat) : Lib.decDigits u ≠ [] := by
  by_cases h : u < 10
  · rw [decDigits_small h]; simp
  · rw [decDigits_big h]; simp
theorem decDigits_head (u : Nat) (h0 : 0 < u) : ∃ d, 1 ≤ d ∧ d < 10 ∧ (Lib.decDigits u).head? = some (UInt8.ofNat (48 + d)) := by
  induction u using Nat.strongRecOn with
  | _ u ih =>
    by_cases h : u < 10
    · exact ⟨u, h0, h, by rw [decDigits_small h]; rfl⟩
    · obtain ⟨d, h1, h2, h3⟩ := ih (u / 10) (by omega) (by omega)
      refine ⟨d, h1, h2, ?_⟩
      rw [decDigits_big h, List.head?_append, h3]; rfl
theorem head_of_digs {l : List UInt8} (h : l.all digB = true) : ¬ l.head? = some 45 := by
  intro e
  cases l with
  | nil => simp at e
  | cons c r =>
    simp only [List.head?_cons, Option.some.injEq] at e
    subst e
    rw [List.all_cons, Bool.and_eq_true] at h
    exact absurd h.1 (by decide)
theorem body_dec (u : Nat) : bodyL (Lib.decDigits u) = Lib.decDigits u := by unfold bodyL; rw [if_neg (head_of_digs (decDigits_digs u))]
theorem valD_dec (u : Nat) : valD (Lib.decDigits u) = u := by unfold valD; rw [if_neg (head_of_digs (decDigits_digs u)), body_dec, natD_dec]
theorem numOk_dec (u : Nat) : numOk (Lib.decDigits u) = true := by
  unfold numOk
  rw [body_dec, decDigits_digs, Bool.and_true, Bool.and_eq_true]
  refine ⟨by simp [decDigits_ne], ?_⟩
  by_cases h0 : u = 0
  · subst h0; rw [decDigits_small (by omega)]; decide
  · obtain ⟨d, h1, h2, h3⟩ := decDigits_head u (by omega)
    rw [h3]
    generalize hx : UInt8.ofNat (48 + d) = x
    have : ¬ x = 48 := fun e => by
      have e2 := congrArg UInt8.toNat e
      rw [← hx, dig_toNat h2] at e2
      simp at e2
      omega
    simp [this]
theorem numP_dec {u : Nat} {lo hi : Int} (h1 : lo ≤ u) (h2 : (u : Int) ≤ hi) : numP (Lib.decDigits u) lo hi = ((u : Int), 0) := by
  unfold numP
  rw [numOk_dec, valD_dec, if_pos rfl, if_neg (by omega)]

/-- The way back. -/
theorem parse_text {balls per : Int} (hk : knownB per = true) (hb : numberB balls = true) : parseP (textP balls per).1 per = (balls, 0) := by
  unfold knownB at hk
  unfold numberB at hb
  simp only [Bool.and_eq_true, decide_eq_true_eq] at hk hb
  have hd : 0 ≤ balls / per := Int.ediv_nonneg hb.1 (by omega)
  have hm := Int.emod_nonneg balls (show per ≠ 0 by omega)
  have hl := Int.emod_lt_of_pos balls (show 0 < per by omega)
  have he := Int.mul_ediv_add_emod balls per
  have hle : balls / per ≤ 1000000 := Int.le_trans (Int.ediv_le_self _ hb.1) hb.2
  unfold parseP textP knownB numberB
  simp only [hk, hb, decide_true, Bool.and_self, if_true]
  have e1 := dotAt_app (Lib.decDigits (balls / per).toNat) (Lib.decDigits (balls % per).toNat) (decDigits_digs _)
  rw [e1]
  simp only [List.take_left, List.drop_append]
  rw [List.drop_of_length_le (by omega), show (Lib.decDigits (balls / per).toNat).length + 1 - (Lib.decDigits (balls / per).toNat).length = 1 by omega]
  simp only [List.nil_append, List.drop_succ_cons, List.drop_zero]
  rw [numP_dec (by omega) (by omega), numP_dec (by omega) (by omega)]
  simp only [Int.toNat_of_nonneg hd, Int.toNat_of_nonneg hm, true_and]
  have : balls / per * per + balls % per = balls := by rw [Int.mul_comm]; exact he
  rw [this, if_pos hb.2]
end Go.Proofs.YtdbiihfoafoljaaGreatDoor
