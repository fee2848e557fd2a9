/-
  Chapter 8: a log is read back from its text. Plain.
-/
import Derived.Test.YtgkjcapoddjkhaaGreatDoorPlog
import Derived.Test.YtgkjcapoddjkhaaGreatDoorTLog
import Derived.Test.YtgkjcapoddjkhaaGreatDoorAwk8
import Derived.Lib.Replace
set_option linter.unusedSimpArgs false
set_option linter.unusedVariables false
namespace Go.Proofs.YtgkjcapoddjkhaaGreatDoor
open Go.RowKit
set_option maxRecDepth 100000
def AllW (l : List UInt8) : Prop := ∀ c ∈ l, wordC c = true
theorem aw_lit {l : List UInt8} (h : l.all wordC = true) : AllW l := fun c hc => List.all_eq_true.1 h c hc
theorem aw_nil : AllW [] := fun c h => by simp at h
theorem aw_cat {a b : List UInt8} (ha : AllW a) (hb : AllW b) : AllW (a ++ b) := fun c hc => by
  rcases List.mem_append.1 hc with h | h
  · exact ha c h
  · exact hb c h
theorem aw_cons {c : UInt8} {l : List UInt8} (hc : wordC c = true) (h : AllW l) : AllW (c :: l) := fun x hx => by
  rcases List.mem_cons.1 hx with rfl | hx
  · exact hc
  · exact h x hx
theorem aw_dg {n : Int} (h0 : 0 ≤ n) (h9 : n ≤ 9) : AllW (dg n) := by
  rcases dg_cases h0 h9 with h | h | h | h | h | h | h | h | h | h <;> rw [h] <;> exact aw_lit (by decide)
theorem dig_word : ∀ n, n < 256 → digC (UInt8.ofNat n) = true → wordC (UInt8.ofNat n) = true := by decide +kernel
theorem aw_dcb (n : Int) : AllW (dcB n) := by
  intro c hc
  have h := decDigits_digs n.toNat
  rw [List.all_eq_true] at h
  have h1 := h c hc
  have h2 := dig_word c.toNat c.toNat_lt
  rw [UInt8.ofNat_toNat] at h2
  refine h2 ?_
  revert h1
  first | exact id | (intro h1; simpa [digC] using h1)
theorem aw_prt {d : Del} (hd : OkD d) (hh : 0 ≤ d.how) : AllW (prtD d) := by
  unfold prtD
  refine aw_cat ?_ (aw_cat ?_ (aw_cat ?_ (aw_cat ?_ (aw_cat ?_ (aw_cat ?_ (aw_cat ?_ ?_))))))
  · unfold tyL; split <;> (try split) <;> exact aw_lit (by decide)
  · unfold srcL
    by_cases h1 : d.src = 2
    · rw [if_pos h1]; exact aw_lit (by decide)
    rw [if_neg h1]
    by_cases h2 : d.src = 3
    · rw [if_pos h2]; exact aw_lit (by decide)
    rw [if_neg h2]
    split <;> split <;> exact aw_lit (by decide)
  · unfold runL; split
    · exact aw_dg hd.runs.1 (by have := hd.runs.2; omega)
    · exact aw_nil
  · unfold bdL; split <;> (try split) <;> exact aw_lit (by decide)
  · unfold shL; split
    · exact aw_cons (by decide) (aw_dg hd.short.1 (by have := hd.short.2; omega))
    · exact aw_nil
  · unfold crL; split <;> exact aw_lit (by decide)
  · unfold wkL; split
    · exact aw_nil
    · refine aw_cons (by decide) (aw_cons ?_ (aw_cat (aw_dg hd.vic.1 (by have := hd.vic.2; omega)) ?_))
      · have := hd.how
        rcases (by omega : d.how = 0 ∨ d.how = 1 ∨ d.how = 2 ∨ d.how = 3 ∨ d.how = 4 ∨ d.how = 5 ∨ d.how = 6 ∨ d.how = 7 ∨ d.how = 8 ∨ d.how = 9 ∨ d.how = 10) with h | h | h | h | h | h | h | h | h | h | h <;> rw [h] <;> decide
      · unfold fdL; split
        · refine aw_cons (by decide) (aw_cat (aw_dcb _) (aw_cat ?_ (aw_cat ?_ ?_)))
          · split
            · exact aw_cons (by decide) (aw_dcb _)
            · exact aw_nil
          · split <;> exact aw_lit (by decide)
          · exact aw_lit (by decide)
        · exact aw_nil
  · unfold secL; split
    · exact aw_cons (by decide) (aw_dg hd.sec.1 (by have := hd.sec.2; omega))
    · exact aw_nil
theorem prt_ne {d : Del} (hd : OkD d) : prtD d ≠ [] := by
  intro h
  unfold prtD at h
  simp only [List.append_eq_nil_iff] at h
  obtain ⟨h1, h2, h3, h4, _⟩ := h
  have ht : d.ty ≠ 2 := fun e => by unfold tyL at h1; rw [if_pos e] at h1; cases h1
  have hb : d.bd = 0 := by
    rcases hd.bd with e | e | e
    · exact e
    · unfold bdL at h4; rw [if_pos e] at h4; cases h4
    · unfold bdL at h4; rw [if_neg (by omega), if_pos e] at h4; cases h4
  unfold runL at h3
  rw [if_pos (.inr ⟨h2, hb, ht⟩)] at h3
  exact absurd h3 (by simp [dg])
theorem wrd_kind {n : Nat} (hn : n < 16) : (wordT.getD n []).all wordC = true ∧ wordT.getD n [] ≠ [] ∧ (121 ∈ fldsT.getD n [] → (yesT.getD n []).all wordC = true ∧ yesT.getD n [] ≠ [] ∧ (noT.getD n []).all wordC = true ∧ noT.getD n [] ≠ []) := by
  rcases (by omega : n = 0 ∨ n = 1 ∨ n = 2 ∨ n = 3 ∨ n = 4 ∨ n = 5 ∨ n = 6 ∨ n = 7 ∨ n = 8 ∨ n = 9 ∨ n = 10 ∨ n = 11 ∨ n = 12 ∨ n = 13 ∨ n = 14 ∨ n = 15) with rfl | rfl | rfl | rfl | rfl | rfl | rfl | rfl | rfl | rfl | rfl | rfl | rfl | rfl | rfl | rfl <;> decide
def Wrd (l : List UInt8) : Prop := l ≠ [] ∧ AllW l
theorem wrd_dcb (n : Int) : Wrd (dcB n) := ⟨decDigits_ne _, aw_dcb n⟩
theorem words_wrd {e : Ev} (h : OkE e) (hh : 0 ≤ e.ball.how) : ∀ w ∈ wordsE e, Wrd w := by
  have hkb := h.kind
  obtain ⟨n, hn, hkn⟩ : ∃ n : Nat, n < 16 ∧ e.kind = (n : Int) + 1 := ⟨(e.kind - 1).toNat, by omega, by omega⟩
  obtain ⟨k1, k2, k3⟩ := wrd_kind hn
  have hidx : ((n : Int) + 1 - 1).toNat = n := by omega
  intro w hw
  rcases List.mem_cons.1 hw with rfl | hw
  · unfold word0
    split
    · exact ⟨by decide, aw_lit (by decide)⟩
    · unfold wordL; rw [hkn, hidx]; exact ⟨k2, aw_lit k1⟩
  · obtain ⟨c, hc, rfl⟩ := List.mem_map.1 hw
    unfold fldsL at hc
    rw [hkn, hidx] at hc
    have hm := flds_mem hn c hc
    simp only [allC, List.mem_cons, List.not_mem_nil, or_false] at hm
    rcases hm with rfl | rfl | rfl | rfl | rfl | rfl | rfl
    · exact wrd_dcb e.side
    · exact wrd_dcb e.player
    · exact wrd_dcb e.other
    · obtain ⟨y1, y2, y3, y4⟩ := k3 hc
      show Wrd (if e.yes then yesL e.kind else noL e.kind)
      unfold yesL noL
      rw [hkn, hidx]
      split
      · exact ⟨y2, aw_lit y1⟩
      · exact ⟨y4, aw_lit y3⟩
    · exact wrd_dcb e.runs
    · exact wrd_dcb e.overs
    · show Wrd (prtD e.ball)
      have h3 := kind_ball hn hc
      subst h3
      have ho := okD_of (h.ball hkn)
      exact ⟨prt_ne ho, aw_prt ho hh⟩
/-- The fields of a line of words. -/
def colF : Nat → List (List UInt8) → List Fld
  | _, [] => []
  | i, w :: r => ⟨w, (i : Int) + 1, false⟩ :: colF (i + w.length + 1) r
/-- What may stand behind the words: nothing, or a blank and a comment. -/
def Tl (t : List UInt8) : Prop := t = [] ∨ ∃ r, t = 32 :: 59 :: r
theorem wordC_not {c : UInt8} (h : wordC c = true) : whiteC c = false ∧ c ≠ 59 ∧ c ≠ 34 := by
  have : ∀ n, n < 256 → wordC (UInt8.ofNat n) = true → whiteC (UInt8.ofNat n) = false ∧ UInt8.ofNat n ≠ 59 ∧ UInt8.ofNat n ≠ 34 := by decide +kernel
  have h2 := this c.toNat c.toNat_lt
  rw [UInt8.ofNat_toNat] at h2
  exact h2 h
theorem fld_one {w rest : List UInt8} (hw : Wrd w) (hr : rest = [] ∨ ∃ r, rest = 32 :: r) (n i : Nat) (acc : List Fld) :
    fldF (n + 1) i false acc (w ++ rest) = fldF n (i + w.length) false (acc ++ [⟨w, (i : Int) + 1, false⟩]) rest := by
  obtain ⟨hne, hall⟩ := hw
  obtain ⟨c, r, rfl⟩ : ∃ c r, w = c :: r := by cases w with | nil => exact absurd rfl hne | cons a b => exact ⟨a, b, rfl⟩
  obtain ⟨h1, h2, h3⟩ := wordC_not (hall c List.mem_cons_self)
  have htw : ((c :: r) ++ rest).takeWhile wordC = c :: r := by
    rw [List.takeWhile_append_of_pos hall]
    rcases hr with rfl | ⟨q, rfl⟩
    · simp
    · rw [List.takeWhile_cons, if_neg (by decide)]; simp
  show fldF (n + 1) i false acc (c :: (r ++ rest)) = _
  rw [fldF]
  rw [if_neg (by rw [h1]; decide), if_neg h2, if_neg (by decide), if_neg h3]
  have htw2 : (c :: (r ++ rest)).takeWhile wordC = c :: r := htw
  rw [htw2]
  dsimp only
  have hd : (c :: (r ++ rest)).drop (c :: r).length = rest := by
    have := List.drop_left (l₁ := c :: r) (l₂ := rest)
    exact this
  have ht : (c :: (r ++ rest)).take (c :: r).length = c :: r := List.take_left (l₁ := c :: r) (l₂ := rest)
  rw [hd, ht, if_neg]
  intro h
  rcases h with h | h
  · simp at h
  · rcases hr with rfl | ⟨q, rfl⟩
    · simp at h
    · simp at h
theorem fld_end {t : List UInt8} (ht : Tl t) (n i : Nat) (acc : List Fld) : fldF (n + 2) i false acc t = (acc, 0) := by
  rcases ht with rfl | ⟨r, rfl⟩
  · rfl
  · rw [fldF, if_pos (by decide), fldF, if_neg (by decide), if_pos rfl]
theorem fld_words {t : List UInt8} (ht : Tl t) : ∀ (ws : List (List UInt8)), (∀ w ∈ ws, Wrd w) → ws ≠ [] → ∀ (n i : Nat) (acc : List Fld), (joinS ws).length + 3 ≤ n → fldF n i false acc (joinS ws ++ t) = (acc ++ colF i ws, 0)
  | [], _, h, _, _, _, _ => absurd rfl h
  | [w], hw, _, n, i, acc, hn => by
    obtain ⟨m, rfl⟩ : ∃ m, n = m + 3 := ⟨n - 3, by omega⟩
    rw [joinS, if_pos rfl, show m + 3 = (m + 2) + 1 from rfl, fld_one (hw w List.mem_cons_self) (by rcases ht with rfl | ⟨r, rfl⟩; exact .inl rfl; exact .inr ⟨_, rfl⟩), fld_end ht]
    rfl
  | w :: v :: r, hw, _, n, i, acc, hn => by
    have hj : joinS (w :: v :: r) = w ++ 32 :: joinS (v :: r) := by rw [joinS, if_neg (by simp)]
    rw [hj] at hn ⊢
    rw [List.length_append, List.length_cons] at hn
    have hwl : 0 < w.length := List.length_pos_iff.2 (hw w List.mem_cons_self).1
    obtain ⟨m, rfl⟩ : ∃ m, n = m + 2 := ⟨n - 2, by omega⟩
    rw [List.append_assoc, List.cons_append, show m + 2 = (m + 1) + 1 from rfl, fld_one (hw w List.mem_cons_self) (.inr ⟨_, rfl⟩)]
    show fldF (m + 1) _ false _ (32 :: (joinS (v :: r) ++ t)) = _
    rw [fldF, if_pos (by decide), fld_words ht (v :: r) (fun x hx => hw x (List.mem_cons_of_mem _ hx)) (by simp) m _ _ (by omega)]
    show (acc ++ [_] ++ colF (i + w.length + 1) (v :: r), (0 : Int)) = _
    rw [List.append_assoc]
    rfl
theorem colF_join : ∀ (ws : List (List UInt8)) (i : Nat), joinF (colF i ws) = (joinS ws, true) := by
  have h1 : ∀ (ws : List (List UInt8)) (i : Nat), (colF i ws).any (·.quoted) = false := by
    intro ws
    induction ws with
    | nil => intro i; rfl
    | cons w r ih => intro i; show (false || (colF _ r).any _) = false; rw [ih]; rfl
  have h2 : ∀ (ws : List (List UInt8)) (i : Nat), (colF i ws).map (·.text) = ws := by
    intro ws
    induction ws with
    | nil => intro i; rfl
    | cons w r ih => intro i; show w :: (colF _ r).map _ = w :: r; rw [ih]
  intro ws i
  unfold joinF
  rw [h1, h2]
  rfl
theorem fldF_fuel : ∀ (n m i : Nat) (aft : Bool) (acc : List Fld) (rest : List UInt8), rest.length < n → rest.length < m → fldF n i aft acc rest = fldF m i aft acc rest
  | 0, _, _, _, _, _, h, _ => by omega
  | _ + 1, 0, _, _, _, _, _, h => by omega
  | n + 1, m + 1, i, aft, acc, [], _, _ => rfl
  | n + 1, m + 1, i, aft, acc, c :: r, h1, h2 => by
    simp only [List.length_cons] at h1 h2
    unfold fldF
    split
    · exact fldF_fuel n m _ _ _ _ (by omega) (by omega)
    split
    · rfl
    split
    · rfl
    split
    · dsimp only
      split
      · next hq =>
        have h3 := quoL_gt hq
        exact fldF_fuel n m _ _ _ _ (by rw [List.length_drop, List.length_cons]; omega) (by rw [List.length_drop, List.length_cons]; omega)
      · rfl
    · dsimp only
      split
      · rfl
      · next hk =>
        have hk1 : ((c :: r).takeWhile wordC).length ≠ 0 := fun h => hk (.inl h)
        exact fldF_fuel n m _ _ _ _ (by rw [List.length_drop, List.length_cons]; omega) (by rw [List.length_drop, List.length_cons]; omega)
/-- A line: an event's text, with or without a comment. -/
theorem lin_evt {e : Ev} (hc : chkE e = 0) (hh : 0 ≤ e.ball.how) {t : List UInt8} (ht : Tl t) (hl : t.length ≤ 500) : linP (txtE e ++ t) = (colF 0 (wordsE e), 0, 4) := by
  have hok := okE_of hc
  have hlen := txt_len hok
  have hlen2 : (txtE e).length ≤ 200 := hlen
  unfold linP
  rw [if_pos (by rw [List.length_append]; omega)]
  unfold fieldsP
  have := fld_words ht (wordsE e) (words_wrd hok hh) (by unfold wordsE; simp) ((txtE e ++ t).length + 3) 0 [] (by show (txtE e).length + 3 ≤ _; rw [List.length_append]; omega)
  have hmono : fldF ((txtE e ++ t).length + 1) 0 false [] (txtE e ++ t) = fldF ((txtE e ++ t).length + 3) 0 false [] (txtE e ++ t) := fldF_fuel _ _ _ _ _ _ (by omega) (by omega)
  rw [hmono]
  show ((fldF _ 0 false [] (joinS (wordsE e) ++ t)).1, (fldF _ 0 false [] (joinS (wordsE e) ++ t)).2, (4 : Int)) = _
  rw [this]
  rfl
/-- A line that is read: nothing, or one event. -/
def Itm (x : List UInt8 × Option Ev) : Prop := 10 ∉ x.1 ∧ match x.2 with
  | none => linP x.1 = ([], 0, 4)
  | some e => linP x.1 = (colF 0 (wordsE e), 0, 4) ∧ chkE e = 0 ∧ 0 ≤ e.ball.src ∧ 0 ≤ e.ball.how
theorem splC_items : ∀ (l : List (List UInt8 × Option Ev)), (∀ x ∈ l, Itm x) → splitC 10 (l.flatMap fun x => x.1 ++ [10]) = l.map (·.1) ++ [[]]
  | [], _ => rfl
  | x :: r, h => by
    rw [List.flatMap_cons, List.append_assoc]
    show splitC 10 (x.1 ++ 10 :: r.flatMap _) = _
    rw [splitC_app (h x List.mem_cons_self).1, splC_items r (fun y hy => h y (List.mem_cons_of_mem _ hy))]
    rfl
theorem plStep_evt (es : List Ev) (n : Int) {e : Ev} (hc : chkE e = 0) (hs : 0 ≤ e.ball.src) (hh : 0 ≤ e.ball.how) : plStep (es, []) ⟨n, colF 0 (wordsE e)⟩ = (es ++ [e], []) := by
  have h1 := colF_join (wordsE e) 0
  have h2 : ParP (joinS (wordsE e)) = (e, 0) := par_txt hc hs hh
  unfold plStep
  rw [h1, h2]
  rfl
theorem linP_nil : linP [] = ([], 0, 4) := rfl
theorem splF_items : ∀ (l : List (List UInt8 × Option Ev)), (∀ x ∈ l, Itm x) → ∀ (i : Nat) (a : List Lin) (es : List Ev), a.foldl plStep ([], []) = (es, []) →
    (splF i (a, []) (l.map (·.1) ++ [[]])).2 = [] ∧ (splF i (a, []) (l.map (·.1) ++ [[]])).1.foldl plStep ([], []) = (es ++ l.filterMap (·.2), [])
  | [], _, i, a, es, h => by
    have : splF i (a, []) (List.map (·.1) ([] : List (List UInt8 × Option Ev)) ++ [[]]) = (a, []) := rfl
    rw [this]
    exact ⟨rfl, by rw [h]; simp⟩
  | x :: r, h, i, a, es, ha => by
    obtain ⟨hx1, hx2⟩ := h x List.mem_cons_self
    show (splF (i + 1) (splStep (a, []) i x.1) (r.map (·.1) ++ [[]])).2 = [] ∧ (splF (i + 1) (splStep (a, []) i x.1) (r.map (·.1) ++ [[]])).1.foldl plStep ([], []) = _
    obtain ⟨s, o⟩ := x
    cases o with
    | none =>
      have hx2 : linP s = ([], 0, 4) := hx2
      have : splStep (a, []) i s = (a, []) := by unfold splStep; rw [hx2]; rfl
      rw [this]
      exact splF_items r (fun y hy => h y (List.mem_cons_of_mem _ hy)) (i + 1) a es ha
    | some e =>
      obtain ⟨h1, h2, h3, h4⟩ : linP s = (colF 0 (wordsE e), 0, 4) ∧ chkE e = 0 ∧ 0 ≤ e.ball.src ∧ 0 ≤ e.ball.how := hx2
      have : splStep (a, []) i s = (a ++ [⟨(i : Int) + 1, colF 0 (wordsE e)⟩], []) := by
        unfold splStep
        rw [h1, if_neg (by simp), if_pos ⟨rfl, by show 0 < (colF 0 (wordsE e)).length; unfold wordsE; exact Nat.succ_pos _⟩]
      rw [this]
      have hn : (a ++ [(⟨(i : Int) + 1, colF 0 (wordsE e)⟩ : Lin)]).foldl plStep ([], []) = (es ++ [e], []) := by
        rw [List.foldl_append, ha]
        exact plStep_evt es _ h2 h3 h4
      have := splF_items r (fun y hy => h y (List.mem_cons_of_mem _ hy)) (i + 1) _ _ hn
      refine ⟨this.1, this.2.trans ?_⟩
      simp
theorem parlog_items (l : List (List UInt8 × Option Ev)) (h : ∀ x ∈ l, Itm x) (hl : (l.flatMap fun x => x.1 ++ [10]).length ≤ 262144) :
    ParLogP (l.flatMap fun x => x.1 ++ [10]) = if 4000 < (l.filterMap (·.2)).length then ([], [⟨1, 1, 9⟩]) else (l.filterMap (·.2), []) := by
  have hs := splF_items l h 0 [] [] rfl
  have hsp : splitP (l.flatMap fun x => x.1 ++ [10]) = splF 0 ([], []) (l.map (·.1) ++ [[]]) := by
    unfold splitP
    rw [if_neg (by omega), splC_items l h]
  unfold ParLogP
  rw [hsp, if_neg (by rw [hs.1]; simp), if_neg (by rw [hs.2]; simp), hs.2]
  simp
theorem nl_txt {e : Ev} (h : OkE e) (hh : 0 ≤ e.ball.how) : 10 ∉ txtE e := by
  have hj : ∀ ws : List (List UInt8), (∀ w ∈ ws, Wrd w) → 10 ∉ joinS ws := by
    intro ws
    induction ws with
    | nil => intro _; simp [joinS]
    | cons w r ih =>
      intro hw hm
      have hm1 : 10 ∉ w := fun hx => by have := (hw w List.mem_cons_self).2 10 hx; revert this; decide
      unfold joinS at hm
      split at hm
      · exact hm1 hm
      · rcases List.mem_append.1 hm with hm | hm
        · exact hm1 hm
        · rcases List.mem_cons.1 hm with hm | hm
          · revert hm; decide
          · exact ih (fun x hx => hw x (List.mem_cons_of_mem _ hx)) hm
  exact hj _ (words_wrd h hh)
theorem itm_evt {e : Ev} (hc : chkE e = 0) (hs : 0 ≤ e.ball.src) (hh : 0 ≤ e.ball.how) {t : List UInt8} (ht : Tl t) (ht10 : 10 ∉ t) (hl : t.length ≤ 500) : Itm (txtE e ++ t, some e) :=
  ⟨fun h => by
    rcases List.mem_append.1 h with h | h
    · exact nl_txt (okE_of hc) hh h
    · exact ht10 h, lin_evt hc hh ht hl, hc, hs, hh⟩
theorem log_cases : ∀ (l : List Ev) (acc : List UInt8), ((logF acc l).2 = 0 ∧ (∀ e ∈ l, chkE e = 0) ∧ (logF acc l).1 = acc ++ l.flatMap fun e => txtE e ++ [10]) ∨ ((logF acc l).2 ≠ 0 ∧ (logF acc l).1 = [])
  | [], acc => .inl ⟨rfl, fun e h => by simp at h, by simp [logF]⟩
  | e :: r, acc => by
    unfold logF
    by_cases hc : chkE e = 0
    · rw [if_neg (by simpa using hc)]
      rcases log_cases r (acc ++ (txtE e ++ [10])) with ⟨h1, h2, h3⟩ | h
      · refine .inl ⟨h1, fun x hx => ?_, ?_⟩
        · rcases List.mem_cons.1 hx with rfl | hx
          · exact hc
          · exact h2 x hx
        · rw [h3]; simp
      · exact .inr h
    · rw [if_pos hc]
      exact .inr ⟨hc, rfl⟩
theorem flat_len (f : Ev → List UInt8) (m : Nat) : ∀ (l : List Ev), (∀ e ∈ l, (f e).length ≤ m) → (l.flatMap f).length ≤ m * l.length
  | [], _ => by simp
  | e :: r, h => by
    rw [List.flatMap_cons, List.length_append, List.length_cons, Nat.mul_succ]
    have := h e List.mem_cons_self
    have := flat_len f m r (fun x hx => h x (List.mem_cons_of_mem _ hx))
    omega
theorem fm_map (f : Ev → List UInt8) (l : List Ev) : (l.map fun e => (f e, some e)).filterMap (·.2) = l := by
  induction l with
  | nil => rfl
  | cons e r ih => simp [ih]
/-- A log's text, read. -/
theorem log_back (l : List Ev) (hl : l.length ≤ 4000) (h : ∀ e ∈ l, chkE e = 0 ∧ 0 ≤ e.ball.src ∧ 0 ≤ e.ball.how) (hz : (l.flatMap fun e => txtE e ++ [10]).length ≤ 262144) : ParLogP (l.flatMap fun e => txtE e ++ [10]) = (l, []) := by
  have he : (l.flatMap fun e => txtE e ++ [10]) = (l.map fun e => (txtE e ++ [], some e)).flatMap fun x => x.1 ++ [10] := by
    rw [List.flatMap_map]; simp
  rw [he] at hz ⊢
  rw [parlog_items _ (fun x hx => by
    obtain ⟨e, hm, rfl⟩ := List.mem_map.1 hx
    obtain ⟨h1, h2, h3⟩ := h e hm
    exact itm_evt h1 h2 h3 (.inl rfl) (by simp) (by simp)) hz, fm_map, if_neg (by omega)]
/-- One event too many. -/
theorem log_many (l : List Ev) (hl : 4000 < l.length) (h : ∀ e ∈ l, chkE e = 0 ∧ 0 ≤ e.ball.src ∧ 0 ≤ e.ball.how) (hz : (l.flatMap fun e => txtE e ++ [10]).length ≤ 262144) : ParLogP (l.flatMap fun e => txtE e ++ [10]) = ([], [⟨1, 1, 9⟩]) := by
  have he : (l.flatMap fun e => txtE e ++ [10]) = (l.map fun e => (txtE e ++ [], some e)).flatMap fun x => x.1 ++ [10] := by
    rw [List.flatMap_map]; simp
  rw [he] at hz ⊢
  rw [parlog_items _ (fun x hx => by
    obtain ⟨e, hm, rfl⟩ := List.mem_map.1 hx
    obtain ⟨h1, h2, h3⟩ := h e hm
    exact itm_evt h1 h2 h3 (.inl rfl) (by simp) (by simp)) hz, fm_map, if_pos (by omega)]
def newB : List UInt8 := [32, 59, 32, 120, 10, 10]
def headB : List UInt8 := [59, 32, 97, 32, 109, 97, 116, 99, 104, 10]
/-- With comments and blank lines. -/
theorem log_com (l : List Ev) (hl : l.length ≤ 20) (h : ∀ e ∈ l, chkE e = 0 ∧ 0 ≤ e.ball.src ∧ 0 ≤ e.ball.how) : ParLogP (headB ++ l.flatMap fun e => txtE e ++ newB) = (l, []) := by
  have hfl : ∀ l : List Ev, (l.flatMap fun e => txtE e ++ newB) = (l.flatMap fun e => [(txtE e ++ [32, 59, 32, 120], some e), ([], none)]).flatMap fun x => x.1 ++ [10] := by
    intro l
    induction l with
    | nil => rfl
    | cons e r ih => rw [List.flatMap_cons, ih, List.flatMap_cons, List.flatMap_append]; simp [newB]
  have hfm : ∀ l : List Ev, ((l.flatMap fun e => [(txtE e ++ [32, 59, 32, 120], some e), (([] : List UInt8), none)]).filterMap (·.2)) = l := by
    intro l
    induction l with
    | nil => rfl
    | cons e r ih => rw [List.flatMap_cons, List.filterMap_append, ih]; rfl
  have he : (headB ++ l.flatMap fun e => txtE e ++ newB) = (([59, 32, 97, 32, 109, 97, 116, 99, 104], none) :: l.flatMap fun e => [(txtE e ++ [32, 59, 32, 120], some e), ([], none)]).flatMap fun x => x.1 ++ [10] := by
    rw [List.flatMap_cons, hfl]; rfl
  have hz : (headB ++ l.flatMap fun e => txtE e ++ newB).length ≤ 262144 := by
    have := flat_len (fun e => txtE e ++ newB) 206 l (fun e hm => by
      have : (txtE e).length ≤ 200 := txt_len (okE_of (h e hm).1)
      rw [List.length_append]
      show _ + 6 ≤ _
      omega)
    rw [List.length_append]
    show 10 + _ ≤ _
    omega
  rw [he] at hz ⊢
  rw [parlog_items _ (fun x hx => by
    rcases List.mem_cons.1 hx with rfl | hx
    · exact ⟨by decide, by show linP [59, 32, 97, 32, 109, 97, 116, 99, 104] = ([], 0, 4); rfl⟩
    · obtain ⟨e, hm, hx⟩ := List.mem_flatMap.1 hx
      obtain ⟨h1, h2, h3⟩ := h e hm
      rcases List.mem_cons.1 hx with rfl | hx
      · exact itm_evt h1 h2 h3 (.inr ⟨_, rfl⟩) (by decide) (by decide)
      · rcases List.mem_cons.1 hx with rfl | hx
        · exact ⟨by simp, rfl⟩
        · cases hx) hz]
  rw [List.filterMap_cons]
  dsimp only
  rw [hfm, if_neg (by omega)]
theorem cnt_items : ∀ (ls : List (List UInt8)), (∀ a ∈ ls, 10 ∉ a) → Lib.count (ls.flatMap (· ++ [10])) [10] = ls.length ∧ ∀ new, Lib.replaceK [10] new ls.length (ls.flatMap (· ++ [10])) = ls.flatMap (· ++ new)
  | [], _ => ⟨rfl, fun _ => rfl⟩
  | a :: r, h => by
    have e : ((a :: r).flatMap (· ++ [10])) = a ++ 10 :: r.flatMap (· ++ [10]) := by simp
    have hi : Lib.index (a ++ 10 :: r.flatMap (· ++ [10])) [10] = (a.length : Int) := by
      rw [index_atB, atB_app (h a List.mem_cons_self)]
    have hd : (a ++ 10 :: r.flatMap (· ++ [10])).drop (a.length + 1) = r.flatMap (· ++ [10]) := by simp
    obtain ⟨i1, i2⟩ := cnt_items r (fun x hx => h x (List.mem_cons_of_mem _ hx))
    rw [e]
    refine ⟨?_, fun new => ?_⟩
    · rw [Lib.count_hit (by simp) hi]
      show _ + Lib.count (List.drop (a.length + 1) _) [10] = _
      rw [hd, i1, List.length_cons, Nat.add_comm]
    · rw [List.length_cons, Lib.replaceK_hit _ _ _ _ _ hi]
      show _ ++ _ ++ Lib.replaceK [10] new r.length (List.drop (a.length + 1) _) = _
      rw [hd, i2]
      simp
theorem rep_log (l : List Ev) (h : ∀ e ∈ l, chkE e = 0 ∧ 0 ≤ e.ball.how) : Lib.count (l.flatMap fun e => txtE e ++ [10]) [10] = l.length ∧ Lib.replaceAll (l.flatMap fun e => txtE e ++ [10]) [10] newB = l.flatMap fun e => txtE e ++ newB := by
  have hm : ∀ new, (l.flatMap fun e => txtE e ++ new) = (l.map txtE).flatMap (· ++ new) := fun new => by rw [List.flatMap_map]
  obtain ⟨h1, h2⟩ := cnt_items (l.map txtE) (fun a ha => by
    obtain ⟨e, he, rfl⟩ := List.mem_map.1 ha
    exact nl_txt (okE_of (h e he).1) (h e he).2)
  rw [hm, hm]
  refine ⟨by rw [h1, List.length_map], ?_⟩
  unfold Lib.replaceAll Lib.replace Lib.replaceNum
  rw [if_neg (by decide), if_pos (.inl (by decide)), h1, h2]
theorem count_nl : ∀ (ls : List (List UInt8)), (∀ a ∈ ls, 10 ∉ a) → Lib.countByte (ls.flatMap (· ++ [10])) 10 = ls.length
  | [], _ => rfl
  | a :: r, h => by
    have := count_nl r (fun x hx => h x (List.mem_cons_of_mem _ hx))
    unfold Lib.countByte at this ⊢
    rw [List.flatMap_cons, List.count_append, this, List.count_append, List.count_eq_zero.2 (h a List.mem_cons_self), List.length_cons]
    simp
    omega
theorem count_log (l : List Ev) (h : ∀ e ∈ l, chkE e = 0 ∧ 0 ≤ e.ball.how) : Lib.countByte (l.flatMap fun e => txtE e ++ [10]) 10 = l.length := by
  have hm : (l.flatMap fun e => txtE e ++ [10]) = (l.map txtE).flatMap (· ++ [10]) := by rw [List.flatMap_map]
  rw [hm, count_nl _ (fun a ha => by
    obtain ⟨e, he, rfl⟩ := List.mem_map.1 ha
    exact nl_txt (okE_of (h e he).1) (h e he).2), List.length_map]
end Go.Proofs.YtgkjcapoddjkhaaGreatDoor
