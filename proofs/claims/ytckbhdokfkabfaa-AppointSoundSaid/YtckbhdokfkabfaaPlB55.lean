/-
  Chapter 55, plain: whole appointments and those of a day; the least one.
-/
import Derived.Test.YtckbhdokfkabfaaPlA55
set_option linter.unusedSimpArgs false
set_option linter.unusedVariables false
namespace Go.Proofs.Ytckbhdokfkabfaa
open Go.RowKit
def zd (Z : List (Dty × (Nat × Nat))) (d : Int) : List (Dty × (Nat × Nat)) := Z.filter fun e => e.1.d == d
theorem zd_fst {M : List Dty} {Z : List (Dty × (Nat × Nat))} (hm : Z.map Prod.fst = M) (d : Int) : (zd Z d).map Prod.fst = dOn M d := by
  unfold zd dOn
  rw [← hm, List.filter_map]
  rfl
theorem zd_mem {Z : List (Dty × (Nat × Nat))} {d : Int} {e : Dty × (Nat × Nat)} (h : e ∈ zd Z d) : e ∈ Z ∧ e.1.d = d := by
  unfold zd at h
  rw [List.mem_filter] at h
  exact ⟨h.1, by simpa using h.2⟩
theorem row_at {U : List Ump} {x : Dty} {a : Nat} {y : Ump} (h : U[a]? = some y) (hm : mayB x y = true) : bG (rowM U x) a = true := by
  unfold bG rowM
  rw [List.getElem?_map, h]
  exact hm
theorem row_inv {U : List Ump} {x : Dty} {a : Nat} (h : bG (rowM U x) a = true) : ∃ y, U[a]? = some y ∧ mayB x y = true := by
  unfold bG rowM at h
  rw [List.getElem?_map] at h
  cases hy : U[a]? with
  | none => rw [hy] at h; cases h
  | some y => rw [hy] at h; exact ⟨y, rfl, h⟩
theorem rG_day {M : List Dty} {U : List Ump} {d : Int} {j : Nat} {x : Dty} (h : (dOn M d)[j]? = some x) : rG (mayD M U d) j = rowM U x := by
  unfold rG mayD
  rw [List.getElem?_map, h]; rfl
theorem bar2_at {us : List Int} {a b : Nat} (ha : uG us a = -1) (hb : uG us b = -1) (j : Nat) : uG (bar2 us a b) j = if j = b then -2 else if j = a then -2 else uG us j := by
  have hal := uG_lt (us := us) (u := a) (by rw [ha]; decide)
  have hbl := uG_lt (us := us) (u := b) (by rw [hb]; decide)
  unfold bar2
  rw [uG_set (us := us.set a (-2)) (u := b) (by simpa using hbl)]
  split
  · rfl
  · rw [uG_set hal]
theorem pairs_ok {U : List Ump} {may : List (List Bool)} : ∀ (T : List (Dty × (Nat × Nat))) (i : Nat) (us : List Int), (∀ j e, T[j]? = some e → rG may (i + j) = rowM U e.1) → (∀ e ∈ T, OkE U e ∧ uG us e.2.1 = -1 ∧ uG us e.2.2 = -1) → T.Pairwise (fun e f => dis e.2 f.2) → PairsOk may us i (T.map Prod.snd) := by
  intro T
  induction T with
  | nil => intro i us _ _ _; trivial
  | cons e T ih =>
    intro i us h1 h2 h3
    obtain ⟨⟨hlt, ⟨ya, ha1, ha2⟩, yb, hb1, hb2⟩, hua, hub⟩ := h2 e (by simp)
    have hr := h1 0 e rfl
    rw [Nat.add_zero] at hr
    rw [List.pairwise_cons] at h3
    refine ⟨⟨hlt, by rw [hr]; exact row_at ha1 ha2, by rw [hr]; exact row_at hb1 hb2, hua, hub⟩, ih (i + 1) _ (fun j f hf => ?_) (fun f hf => ?_) h3.2⟩
    · rw [show i + 1 + j = i + (j + 1) by omega]
      exact h1 (j + 1) f hf
    · obtain ⟨k1, k2, k3⟩ := h2 f (by simp [hf])
      obtain ⟨d1, d2, d3, d4⟩ := h3.1 f hf
      refine ⟨k1, ?_, ?_⟩
      · rw [bar2_at hua hub, if_neg (fun c => d3 c.symm), if_neg (fun c => d1 c.symm)]; exact k2
      · rw [bar2_at hua hub, if_neg (fun c => d4 c.symm), if_neg (fun c => d2 c.symm)]; exact k3
theorem pairs_inv {may : List (List Bool)} : ∀ (Q : List (Nat × Nat)) (i : Nat) (us : List Int), PairsOk may us i Q → (∀ j q, Q[j]? = some q → q.1 < q.2 ∧ bG (rG may (i + j)) q.1 = true ∧ bG (rG may (i + j)) q.2 = true ∧ uG us q.1 = -1 ∧ uG us q.2 = -1) ∧ Q.Pairwise dis := by
  intro Q
  induction Q with
  | nil => intro i us _; exact ⟨fun j q h => by simp at h, List.Pairwise.nil⟩
  | cons p Q ih =>
    intro i us h
    obtain ⟨hp, hq⟩ := h
    obtain ⟨k1, k2⟩ := ih (i + 1) _ hq
    have hb := bar2_at hp.fa hp.fb
    have hno : ∀ q ∈ Q, (uG us q.1 = -1 ∧ q.1 ≠ p.1 ∧ q.1 ≠ p.2) ∧ uG us q.2 = -1 ∧ q.2 ≠ p.1 ∧ q.2 ≠ p.2 := fun q hq => by
      obtain ⟨j, hj⟩ := List.getElem?_of_mem hq
      obtain ⟨_, _, _, c1, c2⟩ := k1 j q hj
      rw [hb] at c1 c2
      constructor
      · by_cases e1 : q.1 = p.2
        · rw [if_pos e1] at c1; cases c1
        · rw [if_neg e1] at c1
          by_cases e2 : q.1 = p.1
          · rw [if_pos e2] at c1; cases c1
          · rw [if_neg e2] at c1; exact ⟨c1, e2, e1⟩
      · by_cases e1 : q.2 = p.2
        · rw [if_pos e1] at c2; cases c2
        · rw [if_neg e1] at c2
          by_cases e2 : q.2 = p.1
          · rw [if_pos e2] at c2; cases c2
          · rw [if_neg e2] at c2; exact ⟨c2, e2, e1⟩
    refine ⟨fun j q hj => ?_, List.pairwise_cons.2 ⟨fun q hq => ?_, k2⟩⟩
    · cases j with
      | zero =>
        have e : p = q := by simpa using hj
        subst e
        exact ⟨hp.lt, hp.ma, hp.mb, hp.fa, hp.fb⟩
      | succ j =>
        have hj : Q[j]? = some q := by simpa using hj
        obtain ⟨c1, c2, c3, _, _⟩ := k1 j q hj
        obtain ⟨⟨c4, _⟩, c5, _⟩ := hno q (List.mem_of_getElem? hj)
        rw [show i + (j + 1) = i + 1 + j by omega]
        exact ⟨c1, c2, c3, c4, c5⟩
    · obtain ⟨⟨_, a1, a2⟩, _, b1, b2⟩ := hno q hq
      exact ⟨fun c => a1 c.symm, fun c => b1 c.symm, fun c => a2 c.symm, fun c => b2 c.symm⟩
theorem uG_rep {n u : Nat} (h : u < n) : uG (List.replicate n (-1)) u = -1 := by
  unfold uG
  rw [List.getElem?_replicate, if_pos h]; rfl
/-- A full appointment gives each day's pairs. -/
theorem day_pairs {M : List Dty} {U : List Ump} {Z : List (Dty × (Nat × Nat))} (hz : OkZ U Z) (hm : Z.map Prod.fst = M) (d : Int) : PairsOk (mayD M U d) (List.replicate U.length (-1)) 0 ((zd Z d).map Prod.snd) := by
  refine pairs_ok (U := U) (zd Z d) 0 _ (fun j e he => ?_) (fun e he => ?_) ?_
  · rw [Nat.zero_add]
    refine rG_day ?_
    rw [← zd_fst hm d, List.getElem?_map, he]; rfl
  · have h := hz.ok e (zd_mem he).1
    obtain ⟨ya, h1, _⟩ := h.a
    obtain ⟨yb, h2, _⟩ := h.b
    exact ⟨h, uG_rep (List.getElem?_eq_some_iff.1 h1).1, uG_rep (List.getElem?_eq_some_iff.1 h2).1⟩
  · refine List.Pairwise.imp_of_mem (fun {a b} ha hb hr => ?_) (List.Pairwise.filter (fun e => e.1.d == d) hz.ds)
    exact hr (by rw [(zd_mem ha).2, (zd_mem hb).2])
theorem zd_len {M : List Dty} {Z : List (Dty × (Nat × Nat))} (hm : Z.map Prod.fst = M) (d : Int) : ((zd Z d).map Prod.snd).length = (dOn M d).length := by
  rw [← zd_fst hm d, List.length_map, List.length_map]
theorem no_bad {M : List Dty} {U : List Ump} {Z : List (Dty × (Nat × Nat))} (hz : OkZ U Z) (hm : Z.map Prod.fst = M) : badD M U = none := by
  unfold badD
  rw [List.find?_eq_none]
  intro d _
  unfold badB lkD
  have hf := ext_feas (may := mayD M U d) (nm := (dOn M d).length) ((zd Z d).map Prod.snd) 0 (List.replicate U.length (-1)) _ (fresh_rep _) (NeedAt.start _) (by rw [zd_len hm]; omega) (day_pairs hz hm d)
  rw [(fill_iff (n := U.length) (by simp) (by simp) (fresh_rep U.length)).2 hf]
  simp
theorem pw_days {Z : List (Dty × (Nat × Nat))} {R : Dty × (Nat × Nat) → Dty × (Nat × Nat) → Prop} (h : ∀ d, (zd Z d).Pairwise R) : Z.Pairwise fun e f => e.1.d = f.1.d → R e f := by
  induction Z with
  | nil => exact List.Pairwise.nil
  | cons e Z ih =>
    refine List.pairwise_cons.2 ⟨fun f hf hd => ?_, ih fun d => ?_⟩
    · have h1 := h e.1.d
      unfold zd at h1
      rw [List.filter_cons_of_pos (by simp), List.pairwise_cons] at h1
      exact h1.1 f (List.mem_filter.2 ⟨hf, by simpa using hd.symm⟩)
    · have h1 := h d
      unfold zd at h1 ⊢
      rw [List.filter_cons] at h1
      split at h1
      · exact (List.pairwise_cons.1 h1).2
      · exact h1
def prN (M : List Dty) (U : List Ump) (x : Dty) : Nat × Nat := ((pairF M U x.m).1.toNat, (pairF M U x.m).2.toNat)
def zApp (M : List Dty) (U : List Ump) : List (Dty × (Nat × Nat)) := M.map fun x => (x, prN M U x)
theorem on_mem {M : List Dty} {d : Int} {x : Dty} (h : x ∈ dOn M d) : x ∈ M ∧ x.d = d := by
  unfold dOn at h
  rw [List.mem_filter] at h
  exact ⟨h.1, by simpa using h.2⟩
theorem on_pair {M : List Dty} {U : List Ump} (h : CkOk M U) (d : Int) : (dOn M d).Pairwise fun x y => x.m < y.m := List.Pairwise.filter _ (dt_pair h)
theorem on_idx {M : List Dty} {U : List Ump} (h : CkOk M U) {d : Int} {i j : Nat} {x y : Dty} (hi : (dOn M d)[i]? = some x) (hj : (dOn M d)[j]? = some y) (e : x.m = y.m) : i = j := by
  have hp := List.pairwise_iff_getElem.1 (on_pair h d)
  obtain ⟨h1, h2⟩ := List.getElem?_eq_some_iff.1 hi
  obtain ⟨h3, h4⟩ := List.getElem?_eq_some_iff.1 hj
  rcases Nat.lt_trichotomy i j with k | k | k
  · have := hp i j h1 h3 k; rw [h2, h4] at this; omega
  · exact k
  · have := hp j i h3 h1 k; rw [h2, h4] at this; omega
theorem day_prs {M : List Dty} {U : List Ump} (hk : CkOk M U) (h : badD M U = none) {d : Int} (hd : dOn M d ≠ []) : pairsD M U d = (dOn M d).map fun x => pairF M U x.m := by
  obtain ⟨P, e1, e2, _⟩ := pair_day h hd
  have hlen : (pairsD M U d).length = (dOn M d).length := by rw [e1, List.length_map, e2]
  apply List.ext_getElem?
  intro j
  by_cases hj : j < (dOn M d).length
  · obtain ⟨x, hx⟩ : ∃ x, (dOn M d)[j]? = some x := ⟨_, List.getElem?_eq_getElem hj⟩
    obtain ⟨v, hv⟩ : ∃ v, (pairsD M U d)[j]? = some v := ⟨_, List.getElem?_eq_getElem (by omega)⟩
    have hxm := List.mem_of_getElem? hx
    rw [List.getElem?_map, hx, hv]
    show some v = some (pairF M U x.m)
    have hz : (((dOn M d).map Dty.m).zip (pairsD M U d))[j]? = some (x.m, v) := List.getElem?_zip_eq_some.2 ⟨by rw [List.getElem?_map, hx]; rfl, hv⟩
    have hex : ∃ e ∈ pairL M U (sortL (daysL M)), e.1 = x.m := ⟨_, List.mem_flatMap.2 ⟨d, (sortL_mem _ _).2 ((days_mem M _).2 hd), List.mem_of_getElem? hz⟩, rfl⟩
    obtain ⟨e, he, hem, hpe⟩ := putAll_mem (fun _ => (0, 0)) x.m _ hex
    obtain ⟨d', hd', hed⟩ := List.mem_flatMap.1 he
    obtain ⟨j', hj'⟩ := List.getElem?_of_mem hed
    obtain ⟨k1, k2⟩ := List.getElem?_zip_eq_some.1 hj'
    rw [List.getElem?_map, Option.map_eq_some_iff] at k1
    obtain ⟨y, hy, hym⟩ := k1
    have hyM := on_mem (List.mem_of_getElem? hy)
    have hxM := on_mem hxm
    have exy : y = x := dt_uniq hk hyM.1 hxM.1 (by rw [hym, hem])
    subst exy
    have edd : d' = d := by rw [← hyM.2, hxM.2]
    subst edd
    have ejj := on_idx hk hy hx rfl
    subst ejj
    rw [hv] at k2
    unfold pairF
    rw [hpe, Option.some.inj k2]
  · rw [List.getElem?_eq_none (by omega), List.getElem?_eq_none (by simp; omega)]
theorem zd_app (M : List Dty) (U : List Ump) (d : Int) : zd (zApp M U) d = (dOn M d).map fun x => (x, prN M U x) := by
  unfold zd zApp dOn
  rw [List.filter_map]
  rfl
/-- The pairs of a day, as they stand in the whole appointment. -/
theorem day_app {M : List Dty} {U : List Ump} (hk : CkOk M U) (h : badD M U = none) (d : Int) :
    PairsOk (mayD M U d) (List.replicate U.length (-1)) 0 ((zd (zApp M U) d).map Prod.snd) ∧ (∀ x ∈ dOn M d, pairF M U x.m = castP (prN M U x)) ∧
      ∀ Q, Q.length = (dOn M d).length → PairsOk (mayD M U d) (List.replicate U.length (-1)) 0 Q → ∀ (j : Nat) (p q : Nat × Nat), ((zd (zApp M U) d).map Prod.snd).take j = Q.take j → ((zd (zApp M U) d).map Prod.snd)[j]? = some p → Q[j]? = some q → p.1 < q.1 ∨ p.1 = q.1 ∧ p.2 ≤ q.2 := by
  by_cases hd : dOn M d = []
  · rw [zd_app, hd]
    exact ⟨trivial, fun x hx => by simp at hx, fun Q _ _ j p q _ hp => by simp at hp⟩
  · obtain ⟨P, e1, e2, e3, e4, e5⟩ := pair_day h hd
    rw [day_prs hk h hd] at e1
    have hP : P = (zd (zApp M U) d).map Prod.snd := by
      rw [zd_app, List.map_map]
      apply List.ext_getElem?
      intro j
      have h1 := congrArg (fun l => l[j]?) e1
      simp only [List.getElem?_map] at h1 ⊢
      cases hj : (dOn M d)[j]? with
      | none => rw [hj] at h1; cases hp : P[j]? with
        | none => rfl
        | some p => rw [hp] at h1; cases h1
      | some x =>
        rw [hj] at h1
        cases hp : P[j]? with
        | none => rw [hp] at h1; cases h1
        | some p =>
          rw [hp] at h1
          have h2 : pairF M U x.m = castP p := by simpa using h1
          show some p = some (prN M U x)
          unfold prN
          rw [h2]
          simp [castP]
    rw [← hP]
    refine ⟨e3, fun x hx => ?_, e5⟩
    obtain ⟨j, hj⟩ := List.getElem?_of_mem hx
    have h1 := congrArg (fun l => l[j]?) e1
    simp only [List.getElem?_map, hj] at h1
    cases hp : P[j]? with
    | none => rw [hp] at h1; cases h1
    | some p =>
      rw [hp] at h1
      have h2 : pairF M U x.m = castP p := by simpa using h1
      unfold prN
      rw [h2]
      simp [castP]
theorem app_ok {M : List Dty} {U : List Ump} (hk : CkOk M U) (h : badD M U = none) : OkZ U (zApp M U) ∧ (zApp M U).map Prod.fst = M ∧ M.map (outE M U) = (zApp M U).map (zE U) := by
  have hin : ∀ x ∈ M, x ∈ dOn M x.d := fun x hx => by unfold dOn; rw [List.mem_filter]; exact ⟨hx, by simp⟩
  refine ⟨⟨fun e he => ?_, pw_days fun d => ?_⟩, ?_, ?_⟩
  · unfold zApp at he
    obtain ⟨x, hx, rfl⟩ := List.mem_map.1 he
    obtain ⟨h1, _, _⟩ := day_app hk h x.d
    obtain ⟨j, hj⟩ := List.getElem?_of_mem (hin x hx)
    obtain ⟨c1, c2, c3, _, _⟩ := (pairs_inv _ 0 _ h1).1 j (prN M U x) (by rw [zd_app, List.map_map, List.getElem?_map, hj]; rfl)
    rw [Nat.zero_add, rG_day hj] at c2 c3
    exact ⟨c1, row_inv c2, row_inv c3⟩
  · have h1 := (pairs_inv _ 0 _ (day_app hk h d).1).2
    rw [List.pairwise_map] at h1
    exact h1
  · unfold zApp
    rw [List.map_map]
    exact List.map_id M
  · unfold zApp
    rw [List.map_map]
    refine List.map_congr_left fun x hx => ?_
    have h1 := (day_app hk h x.d).2.1 x (hin x hx)
    show outE M U x = zE U (x, prN M U x)
    unfold outE zE
    rw [h1]
    rfl
theorem zd_split (Z : List (Dty × (Nat × Nat))) (k : Nat) (d : Int) {e : Dty × (Nat × Nat)} (he : Z[k]? = some e) (hd : e.1.d = d) : zd Z d = zd (Z.take k) d ++ e :: zd (Z.drop (k + 1)) d := by
  obtain ⟨hk, rfl⟩ := List.getElem?_eq_some_iff.1 he
  unfold zd
  conv => lhs; rw [← List.take_append_drop k Z, List.filter_append, List.drop_eq_getElem_cons hk]
  rw [List.filter_cons_of_pos (by simpa using hd)]
/-- The appointment is the least one. -/
theorem app_least {M : List Dty} {U : List Ump} {Z : List (Dty × (Nat × Nat))} (hk : CkOk M U) (h : badD M U = none) (hz : OkZ U Z) (hm : Z.map Prod.fst = M) {k : Nat} {e f : Dty × (Nat × Nat)} (ht : (zApp M U).take k = Z.take k) (he : (zApp M U)[k]? = some e) (hf : Z[k]? = some f) : e.1 = f.1 ∧ (e.2.1 < f.2.1 ∨ e.2.1 = f.2.1 ∧ e.2.2 ≤ f.2.2) := by
  have hfst := (app_ok hk h).2.1
  have e1 : M[k]? = some e.1 := by rw [← hfst, List.getElem?_map, he]; rfl
  have e2 : M[k]? = some f.1 := by rw [← hm, List.getElem?_map, hf]; rfl
  have e3 : e.1 = f.1 := by rw [e1] at e2; exact Option.some.inj e2
  refine ⟨e3, ?_⟩
  obtain ⟨_, _, h3⟩ := day_app hk h e.1.d
  have s1 := zd_split (zApp M U) k e.1.d he rfl
  have s2 := zd_split Z k e.1.d hf (by rw [e3])
  refine h3 ((zd Z e.1.d).map Prod.snd) (zd_len hm _) (day_pairs hz hm _) (zd (Z.take k) e.1.d).length e.2 f.2 ?_ ?_ ?_
  · rw [s1, s2, ht, List.map_append, List.map_append, List.take_append_of_le_length (by simp), List.take_append_of_le_length (by simp)]
  · rw [s1, ht, List.getElem?_map, List.getElem?_append_right (Nat.le_refl _)]; simp
  · rw [s2, List.getElem?_map, List.getElem?_append_right (Nat.le_refl _)]; simp
end Go.Proofs.Ytckbhdokfkabfaa
