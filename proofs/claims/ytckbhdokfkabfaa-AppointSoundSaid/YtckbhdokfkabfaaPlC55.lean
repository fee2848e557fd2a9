/-
  Chapter 55, plain: sets that refute; one more umpire; what the laws say of the result.
-/
import Derived.Test.YtckbhdokfkabfaaPlB55
set_option linter.unusedSimpArgs false
set_option linter.unusedVariables false
namespace Go.Proofs.Ytckbhdokfkabfaa
open Go.RowKit
theorem ck_ok' {M : List Dty} {U : List Ump} (h : ckA M U = 0) : CkOk M U := ck_ok h
/-! Numbers in ascending order -/
theorem bad_zero {N : List Int} (h : N.Pairwise (· < ·)) : ∀ k, k < N.length → badN N k = 0 := by
  intro k hk
  unfold badN
  rw [List.getElem?_eq_getElem hk]
  dsimp only
  cases k with
  | zero => rfl
  | succ k =>
    have := List.pairwise_iff_getElem.1 h k (k + 1) (by omega) hk (by omega)
    have e : befN N (k + 1) N[k + 1] = false := by
      simp [befN, List.getElem?_eq_getElem (show k < N.length by omega)]
      omega
    rw [e]
    rfl
theorem bad_asc {N : List Int} (h : ∀ k, k < N.length → badN N k = 0) : N.Pairwise (· < ·) := by
  have h1 : ∀ (n i : Nat) (x y : Int), N[i]? = some x → N[i + 1 + n]? = some y → x < y := by
    have h0 : ∀ (i : Nat) (x y : Int), N[i]? = some x → N[i + 1]? = some y → x < y := fun i x y hx hy => by
      have h2 := h (i + 1) (List.getElem?_eq_some_iff.1 hy).1
      unfold badN at h2
      rw [hy] at h2
      dsimp only at h2
      by_cases hle : y ≤ x
      · have e : befN N (i + 1) y = true := by simp [befN, hx, hle]
        rw [e] at h2
        cases h2
      · omega
    intro n
    induction n with
    | zero => intro i x y hx hy; exact h0 i x y hx hy
    | succ n ih =>
      intro i x y hx hy
      have hl := (List.getElem?_eq_some_iff.1 hy).1
      obtain ⟨z, hz⟩ : ∃ z, N[i + 1 + n]? = some z := ⟨_, List.getElem?_eq_getElem (by omega)⟩
      have := ih i x z hx hz
      have := h0 (i + 1 + n) z y hz hy
      omega
  refine List.pairwise_iff_getElem.2 fun i j hi hj hij => ?_
  exact h1 (j - i - 1) i _ _ (List.getElem?_eq_getElem hi) (by rw [show i + 1 + (j - i - 1) = j by omega]; exact List.getElem?_eq_getElem hj)
theorem kof_of {M : List Dty} {U : List Ump} (h : CkOk M U) {x : Dty} (hx : x ∈ M) : ¬ kof M x.m < 0 ∧ dat M x.m = x := by
  obtain ⟨i, hi⟩ := List.getElem?_of_mem hx
  have h1 : kof M x.m = i := fidx_some hi (by simp) (fun j y hj hy => by have := dt_lt h hj hy hi; simp; omega)
  refine ⟨by omega, ?_⟩
  unfold dat
  rw [h1, Int.toNat_natCast, hi]
theorem countP_rng {α : Type} (l : List α) (p : α → Bool) : l.countP p = (List.range l.length).countP fun u => (l[u]?.map p).getD false := by
  have h1 : l.map p = (List.range l.length).map fun u => (l[u]?.map p).getD false := by
    apply List.ext_getElem?
    intro i
    by_cases hi : i < l.length
    · rw [List.getElem?_map, List.getElem?_eq_getElem hi, List.getElem?_map, List.getElem?_eq_getElem (by simpa using hi)]
      simp [hi]
    · rw [List.getElem?_eq_none (by simp; omega), List.getElem?_eq_none (by simp; omega)]
  have h2 : l.countP p = (l.map p).countP id := by rw [List.countP_map]; rfl
  rw [h2, h1, List.countP_map]
  rfl
theorem clear_rep (n : Nat) : Clear (List.replicate n (-1)) := fun u hu => uG_rep (by simpa using hu)
theorem row_lt {M : List Dty} {U : List Ump} {d : Int} {x u : Nat} (h : bG (rG (mayD M U d) x) u = true) : u < U.length := by
  have h1 := bG_lt h
  unfold rG mayD at h1
  rw [List.getElem?_map] at h1
  cases hx : (dOn M d)[x]? with
  | none => rw [hx] at h1; simp at h1
  | some y => rw [hx] at h1; simpa [rowM] using h1
theorem ref_of {M : List Dty} {U : List Ump} {d : Int} (hc : ckA M U = 0) (h : badD M U = some d) : refF M U (numsD M U d) = 0 := by
  have hk := ck_ok hc
  have hb := List.find?_some (show (sortL (daysL M)).find? (badB M U) = some d from h)
  unfold badB at hb
  have hlk : (lkD M U d).1 ≠ [] := fun e => by rw [e] at hb; simp at hb
  have hdef := lack_def (may := mayD M U d) (nm := (dOn M d).length) (n := U.length) (us0 := List.replicate U.length (-1)) (by simp) (clear_rep _) (fun x u hx => by simpa using row_lt hx) hlk
  rw [List.length_replicate] at hdef
  obtain ⟨D, hD⟩ : ∃ D, dOn M d = D := ⟨_, rfl⟩
  obtain ⟨inn, hinn⟩ : ∃ inn, lackF (mayD M U d) (lkD M U d).2 (dOn M d).length (lkD M U d).1 = inn := ⟨_, rfl⟩
  have hpos : ableN (mayD M U d) U.length (outI inn D.length) < 2 * (outI inn D.length).length := by
    have := hdef.pos
    rw [← hinn, ← hD]
    exact this
  have hN : numsD M U d = (outI inn D.length).map (numAt D) := by unfold numsD; rw [hinn, hD]
  rw [hN]
  have hout : ∀ i ∈ outI inn D.length, ∃ x, D[i]? = some x ∧ x ∈ M ∧ x.d = d ∧ numAt D i = x.m := fun i hi => by
    unfold outI at hi
    rw [List.mem_filter, List.mem_range] at hi
    obtain ⟨x, hx⟩ : ∃ x, D[i]? = some x := ⟨_, List.getElem?_eq_getElem hi.1⟩
    have hxm := on_mem (M := M) (d := d) (x := x) (by rw [hD]; exact List.mem_of_getElem? hx)
    exact ⟨x, hx, hxm.1, hxm.2, by unfold numAt; rw [hx]; rfl⟩
  have hasc : ((outI inn D.length).map (numAt D)).Pairwise (· < ·) := by
    rw [List.pairwise_map]
    have h1 : (outI inn D.length).Pairwise (· < ·) := List.Pairwise.filter _ List.pairwise_lt_range
    refine List.Pairwise.imp_of_mem (fun {a b} ha hb hr => ?_) h1
    obtain ⟨x, x1, _, _, x4⟩ := hout a ha
    obtain ⟨y, y1, _, _, y4⟩ := hout b hb
    rw [x4, y4]
    have hp := List.pairwise_iff_getElem.1 (on_pair hk d)
    rw [hD] at hp
    have := hp a b (List.getElem?_eq_some_iff.1 x1).1 (List.getElem?_eq_some_iff.1 y1).1 hr
    rwa [(List.getElem?_eq_some_iff.1 x1).2, (List.getElem?_eq_some_iff.1 y1).2] at this
  obtain ⟨O, hO⟩ : ∃ O, outI inn D.length = O := ⟨_, rfl⟩
  rw [hO] at hpos hout hasc ⊢
  have hset : ∀ i ∈ O, ∃ x, D[i]? = some x ∧ dat M (numAt D i) = x ∧ x.d = d ∧ ¬ kof M (numAt D i) < 0 := fun i hi => by
    obtain ⟨x, x1, x2, x3, x4⟩ := hout i hi
    rw [x4]
    exact ⟨x, x1, (kof_of hk x2).2, x3, (kof_of hk x2).1⟩
  unfold refF
  rw [hc, thenR_zero]
  unfold rf1
  rw [if_neg (by rw [List.length_map]; omega)]
  unfold rf2
  rw [res_done (bad_zero hasc)]
  unfold rf3
  have hat : ∀ j, j < (O.map (numAt D)).length → ∃ i ∈ O, (O.map (numAt D))[j]? = some (numAt D i) := fun j hj => by
    rw [List.length_map] at hj
    exact ⟨O[j], List.getElem_mem hj, by rw [List.getElem?_map, List.getElem?_eq_getElem hj]; rfl⟩
  rw [res_done (fun j hj => by
    obtain ⟨i, hi, e⟩ := hat j hj
    obtain ⟨x, _, _, _, h4⟩ := hset i hi
    rw [nf_of e, if_neg h4])]
  unfold rf4
  have hday : ∀ (j : Nat) (x : Dty), (setN M (O.map (numAt D)))[j]? = some x → x.d = d := fun j x hx => by
    have hj := (List.getElem?_eq_some_iff.1 hx).1
    rw [setN_len] at hj
    obtain ⟨i, hi, e⟩ := hat j hj
    rw [setN_at e] at hx
    obtain ⟨y, _, h2, h3, _⟩ := hset i hi
    rw [← Option.some.inj hx, h2, h3]
  rw [res_done (fun j hj => by
    unfold tmN
    cases h1 : (setN M (O.map (numAt D)))[j]? with
    | none => rfl
    | some x =>
      cases h2 : (setN M (O.map (numAt D)))[0]? with
      | none => rfl
      | some y => dsimp only; rw [if_pos (by rw [hday j x h1, hday 0 y h2])])]
  unfold rf5
  have hab : ableF (setN M (O.map (numAt D))) U = ableN (mayD M U d) U.length O := by
    unfold ableF ableN
    rw [countP_rng]
    refine List.countP_congr fun u hu => ?_
    have hul := List.mem_range.1 hu
    rw [List.getElem?_eq_getElem hul]
    show ((setN M (O.map (numAt D))).any fun x => mayB x U[u]) = true ↔ _
    rw [List.any_eq_true, List.any_eq_true]
    constructor
    · rintro ⟨x, hx, hm⟩
      unfold setN at hx
      rw [List.map_map] at hx
      obtain ⟨i, hi, rfl⟩ := List.mem_map.1 hx
      obtain ⟨y, h1, h2, _⟩ := hset i hi
      refine ⟨i, hi, ?_⟩
      rw [rG_day (by rw [hD]; exact h1)]
      exact row_at (List.getElem?_eq_getElem hul) (by rw [← h2]; exact hm)
    · rintro ⟨i, hi, hm⟩
      obtain ⟨y, h1, h2, _⟩ := hset i hi
      rw [rG_day (by rw [hD]; exact h1)] at hm
      obtain ⟨z, z1, z2⟩ := row_inv hm
      rw [List.getElem?_eq_getElem hul] at z1
      refine ⟨y, ?_, by rw [Option.some.inj z1]; exact z2⟩
      unfold setN
      rw [List.map_map]
      exact List.mem_map.2 ⟨i, hi, h2⟩
  rw [hab, setN_len, List.length_map, if_neg (by omega)]
/-! No set refutes beside a full appointment -/
theorem len_le {α : Type} : ∀ (l m : List α), l.Nodup → (∀ x ∈ l, x ∈ m) → l.length ≤ m.length := by
  intro l
  induction l with
  | nil => intro m _ _; simp
  | cons a l ih =>
    intro m hn hs
    rw [List.nodup_cons] at hn
    obtain ⟨s, t, rfl⟩ := List.append_of_mem (hs a (by simp))
    have := ih (s ++ t) hn.2 (fun x hx => by
      have h1 := hs x (by simp [hx])
      rw [List.mem_append, List.mem_cons] at h1
      rw [List.mem_append]
      rcases h1 with k | k | k
      · exact Or.inl k
      · subst k; exact (hn.1 hx).elim
      · exact Or.inr k)
    simp at this ⊢
    omega
theorem dis_comm {p q : Nat × Nat} (h : dis p q) : dis q p := ⟨fun c => h.1 c.symm, fun c => h.2.2.1 c.symm, fun c => h.2.1 c.symm, fun c => h.2.2.2 c.symm⟩
theorem no_ref {M : List Dty} {U : List Ump} {Z : List (Dty × (Nat × Nat))} (hz : OkZ U Z) (hm : Z.map Prod.fst = M) (N : List Int) : refF M U N ≠ 0 := by
  intro h
  unfold refF at h
  obtain ⟨hc, h1⟩ := then_zero h
  have hk := ck_ok hc
  unfold rf1 at h1
  split at h1
  · cases h1
  · rename_i hne
    unfold rf2 at h1
    obtain ⟨h2, h3⟩ := then_zero h1
    have hasc := bad_asc (res_zero h2)
    unfold rf3 at h3
    obtain ⟨h4, h5⟩ := then_zero h3
    have hnf := res_zero h4
    unfold rf4 at h5
    obtain ⟨h6, h7⟩ := then_zero h5
    have htm := res_zero h6
    unfold rf5 at h7
    split at h7
    · cases h7
    · rename_i hlt
      have hin : ∀ n ∈ N, dat M n ∈ M ∧ (dat M n).m = n := fun n hn => by
        obtain ⟨j, hj⟩ := List.getElem?_of_mem hn
        have := hnf j (List.getElem?_eq_some_iff.1 hj).1
        rw [nf_of hj] at this
        split at this
        · cases this
        · rename_i hkof
          obtain ⟨i, e1, e2⟩ := kof_at hkof
          refine ⟨List.mem_of_getElem? e2, ?_⟩
          obtain ⟨i', x, f1, f2, f3⟩ := fidx_at (show 0 ≤ fidx (fun x : Dty => x.m == n) M by unfold kof at hkof; omega)
          have : i' = i := by unfold kof at e1; omega
          subst this
          rw [e2] at f2
          rw [Option.some.inj f2]
          simpa using f3
      have hSm : ∀ x ∈ setN M N, x ∈ M := fun x hx => by
        unfold setN at hx
        obtain ⟨n, hn, rfl⟩ := List.mem_map.1 hx
        exact (hin n hn).1
      have hSd : (setN M N).Pairwise fun x y => x.m < y.m := by
        unfold setN
        rw [List.pairwise_map]
        refine List.Pairwise.imp_of_mem (fun {a b} ha hb hr => ?_) hasc
        rw [(hin a ha).2, (hin b hb).2]
        exact hr
      have hday : ∀ x ∈ setN M N, ∀ y ∈ setN M N, x.d = y.d := by
        have h0 : ∀ x ∈ setN M N, ∀ z, (setN M N)[0]? = some z → x.d = z.d := fun x hx z hz => by
          obtain ⟨j, hj⟩ := List.getElem?_of_mem hx
          have := htm j (List.getElem?_eq_some_iff.1 hj).1
          unfold tmN at this
          rw [hj, hz] at this
          dsimp only at this
          split at this
          · assumption
          · cases this
        intro x hx y hy
        have hl : 0 < (setN M N).length := List.length_pos_of_mem hx
        rw [h0 x hx _ (List.getElem?_eq_getElem hl), h0 y hy _ (List.getElem?_eq_getElem hl)]
      obtain ⟨S, hS⟩ : ∃ S, setN M N = S := ⟨_, rfl⟩
      rw [hS] at hlt hSm hSd hday
      obtain ⟨f, hf⟩ : ∃ f : Dty → Nat × Nat, ∀ x ∈ M, (x, f x) ∈ Z := by
        refine ⟨fun x => ((Z.find? fun e => e.1.m == x.m).map Prod.snd).getD (0, 0), fun x hx => ?_⟩
        rw [← hm] at hx
        obtain ⟨e, he, hex⟩ := List.mem_map.1 hx
        cases hfi : Z.find? fun e => e.1.m == x.m with
        | none =>
          rw [List.find?_eq_none] at hfi
          have := hfi e he
          rw [hex] at this
          simp at this
        | some g =>
          have g1 := List.find?_some hfi
          have g2 := List.mem_of_find?_eq_some hfi
          have g3 : g.1 = x := dt_uniq hk (by rw [← hm]; exact List.mem_map.2 ⟨g, g2, rfl⟩) (by rw [← hm]; exact hx) (by simpa using g1)
          show (x, ((Z.find? fun e => e.1.m == x.m).map Prod.snd).getD (0, 0)) ∈ Z
          rw [hfi]
          show (x, g.2) ∈ Z
          rw [← g3]
          exact g2
      have hdis : ∀ x ∈ S, ∀ y ∈ S, x.m < y.m → dis (f x) (f y) := fun x hx y hy hxy => by
        obtain ⟨i, hi⟩ := List.getElem?_of_mem (hf x (hSm x hx))
        obtain ⟨j, hj⟩ := List.getElem?_of_mem (hf y (hSm y hy))
        obtain ⟨i1, i2⟩ := List.getElem?_eq_some_iff.1 hi
        obtain ⟨j1, j2⟩ := List.getElem?_eq_some_iff.1 hj
        rcases Nat.lt_trichotomy i j with k | k | k
        · have := List.pairwise_iff_getElem.1 hz.ds i j i1 j1 k
          rw [i2, j2] at this
          exact this (hday x hx y hy)
        · subst k
          rw [hi] at hj
          have := congrArg Prod.fst (Option.some.inj hj)
          dsimp only at this
          rw [this] at hxy
          omega
        · have := List.pairwise_iff_getElem.1 hz.ds j i j1 i1 k
          rw [i2, j2] at this
          exact dis_comm (this (hday y hy x hx))
      have hnd : (S.flatMap fun x => [(f x).1, (f x).2]).Nodup := by
        unfold List.Nodup
        rw [List.pairwise_flatMap]
        refine ⟨fun x hx => ?_, List.Pairwise.imp_of_mem (fun {a b} ha hb hr => ?_) hSd⟩
        · have := (hz.ok _ (hf x (hSm x hx))).lt
          simp
          dsimp only at this
          omega
        · obtain ⟨d1, d2, d3, d4⟩ := hdis a ha b hb hr
          intro u hu v hv
          simp at hu hv
          rcases hu with rfl | rfl <;> rcases hv with rfl | rfl <;> assumption
      have hle := len_le _ ((List.range U.length).filter fun u => (U[u]?.map fun y => S.any fun x => mayB x y).getD false) hnd (fun u hu => by
        rw [List.mem_flatMap] at hu
        obtain ⟨x, hx, hu⟩ := hu
        obtain ⟨_, ⟨ya, a1, a2⟩, yb, b1, b2⟩ := hz.ok _ (hf x (hSm x hx))
        rw [List.mem_filter, List.mem_range]
        simp at hu
        rcases hu with rfl | rfl
        · refine ⟨(List.getElem?_eq_some_iff.1 a1).1, ?_⟩
          rw [a1]
          exact List.any_eq_true.2 ⟨x, hx, a2⟩
        · refine ⟨(List.getElem?_eq_some_iff.1 b1).1, ?_⟩
          rw [b1]
          exact List.any_eq_true.2 ⟨x, hx, b2⟩)
      have hfl : ∀ T : List Dty, (T.flatMap fun x => [(f x).1, (f x).2]).length = 2 * T.length := by
        intro T
        induction T with
        | nil => rfl
        | cons a T ih => simp only [List.flatMap_cons, List.length_append, ih, List.length_cons, List.length_nil]; omega
      rw [hfl, ← List.countP_eq_length_filter, ← countP_rng] at hle
      exact hlt hle
/-! One more umpire -/
def lessU (U : List Ump) (k : Nat) : List Ump := U.take k ++ U.drop (k + 1)
def upI (k i : Nat) : Nat := if i < k then i else i + 1
theorem less_at {U : List Ump} {k : Nat} (hk : k < U.length) (i : Nat) : (lessU U k)[i]? = U[upI k i]? := by
  unfold lessU upI
  by_cases h : i < k
  · rw [if_pos h, List.getElem?_append_left (by simp; omega), List.getElem?_take, if_pos h]
  · rw [if_neg h, List.getElem?_append_right (by simp; omega), List.getElem?_drop]
    congr 1
    simp
    omega
theorem up_inj {k i j : Nat} (h : i ≠ j) : upI k i ≠ upI k j := by
  unfold upI
  split <;> split <;> omega
theorem more_ok {U : List Ump} {k : Nat} {Z : List (Dty × (Nat × Nat))} (hk : k < U.length) (hz : OkZ (lessU U k) Z) : OkZ U (Z.map fun e => (e.1, (upI k e.2.1, upI k e.2.2))) := by
  refine ⟨fun e he => ?_, ?_⟩
  · obtain ⟨e, hm, rfl⟩ := List.mem_map.1 he
    obtain ⟨h1, ⟨ya, a1, a2⟩, yb, b1, b2⟩ := hz.ok e hm
    rw [less_at hk] at a1 b1
    refine ⟨?_, ⟨ya, a1, a2⟩, yb, b1, b2⟩
    show upI k e.2.1 < upI k e.2.2
    unfold upI
    split <;> split <;> omega
  · rw [List.pairwise_map]
    refine hz.ds.imp fun {a b} h hd => ?_
    obtain ⟨h1, h2, h3, h4⟩ := h hd
    exact ⟨up_inj h1, up_inj h2, up_inj h3, up_inj h4⟩
theorem more_law {M : List Dty} {U : List Ump} {k : Nat} (hk : k < U.length) (h : (appR M (lessU U k)).2.2 = 0) : (appR M U).2.2 = 0 ∨ ckA M U = (appR M U).2.2 := by
  by_cases hc : ckA M U = 0
  · left
    unfold appR at h
    split at h
    · rename_i hn; exact (hn h).elim
    · rename_i hn
      have hn : ckA M (lessU U k) = 0 := by simpa using hn
      cases hb : badD M (lessU U k) with
      | some d => rw [hb] at h; cases h
      | none =>
        obtain ⟨h1, h2, _⟩ := app_ok (ck_ok hn) hb
        have h3 := no_bad (more_ok hk h1) (M := M) (by rw [List.map_map]; exact h2)
        unfold appR
        rw [if_neg (by simpa using hc), h3]
  · right
    unfold appR
    rw [if_pos hc]
/-! What the laws say -/
theorem res_ne {f : Nat → Int} {n : Nat} {c : Int} (hc : c ≠ 0) (h : ∀ j, j < n → f j ≠ c) : resW f (scan f n) ≠ c := by
  intro e
  cases hs : scan f n with
  | none => rw [hs] at e; exact hc e.symm
  | some k =>
    have hk : k < n := Classical.byContradiction fun hn => by
      have : scan f n = none ∨ scan f n ≠ none := Classical.em _
      have h0 : ∀ m, (∀ j, scan f m = some j → j < m) := by
        intro m
        induction m with
        | zero => intro j hj; cases hj
        | succ m ih =>
          intro j hj
          unfold scan at hj
          cases h1 : scan f m with
          | none =>
            rw [h1] at hj
            dsimp only at hj
            split at hj
            · cases hj
            · have := Option.some.inj hj; omega
          | some i =>
            rw [h1] at hj
            have := Option.some.inj hj
            have := ih i h1
            omega
      exact hn (h0 n k hs)
    rw [hs] at e
    exact h k hk e
theorem ck_ne (M : List Dty) (U : List Ump) : ckA M U ≠ 13 := by
  have h1 : ckD M ≠ 13 := res_ne (by decide) fun j hj => by
    unfold dErr
    split
    · unfold errD; repeat' split
      all_goals decide
    · decide
  have h2 : ckU U ≠ 13 := res_ne (by decide) fun j hj => by
    unfold uErr
    split
    · unfold errU
      split
      · decide
      · split
        · decide
        · split
          · decide
          · refine res_ne (by decide) fun i hi => ?_
            unfold nErr
            split
            · repeat' split
              all_goals decide
            · decide
    · decide
  unfold ckA
  split
  · decide
  · split
    · exact h1
    · exact h2
theorem proves_law (M : List Dty) (U : List Ump) : ((appR M U).2.2 = 0 → (appR M U).2.1 = [] ∧ accF M U (appR M U).1 = 0) ∧ ((appR M U).2.2 = 13 → (appR M U).1 = [] ∧ refF M U (appR M U).2.1 = 0) ∧ ((appR M U).2.2 ≠ 0 → (appR M U).2.2 ≠ 13 → ckA M U = (appR M U).2.2 ∧ (appR M U).1 = [] ∧ (appR M U).2.1 = []) := by
  unfold appR
  by_cases hc : ckA M U = 0
  · rw [if_neg (by simpa using hc)]
    cases hb : badD M U with
    | some d => exact ⟨fun h => (by cases h), fun _ => ⟨rfl, ref_of hc hb⟩, fun _ h => (h rfl).elim⟩
    | none =>
      obtain ⟨h1, h2, h3⟩ := app_ok (ck_ok hc) hb
      refine ⟨fun _ => ⟨rfl, ?_⟩, fun h => (by cases h), fun h => (h rfl).elim⟩
      show accF M U (M.map (outE M U)) = 0
      rw [h3]
      exact acc_of hc h1 h2
  · rw [if_pos hc]
    exact ⟨fun h => (hc h).elim, fun h => (ck_ne M U h).elim, fun _ _ => ⟨rfl, rfl, rfl⟩⟩
theorem sound_law {M : List Dty} {U : List Ump} {L : List Apd} (h : accF M U L = 0) : (appR M U).2.2 = 0 ∧ (∀ N, refF M U N ≠ 0) ∧ (appR M U).1.length = L.length ∧ ∀ (k : Nat) (z y : Apd), (appR M U).1.take k = L.take k → (appR M U).1[k]? = some z → L[k]? = some y → z ≠ y → slt z.one y.one = true ∨ z.one = y.one ∧ slt z.two y.two = true := by
  obtain ⟨hc, Z, hz, hm, rfl⟩ := acc_inv h
  have hk := ck_ok hc
  have hb := no_bad hz hm
  obtain ⟨h1, h2, h3⟩ := app_ok hk hb
  have hap : appR M U = ((zApp M U).map (zE U), [], 0) := by
    unfold appR
    rw [if_neg (by simpa using hc), hb]
    dsimp only
    rw [h3]
  rw [hap]
  dsimp only
  refine ⟨rfl, no_ref hz hm, ?_, ?_⟩
  · have e1 : (zApp M U).length = M.length := by unfold zApp; rw [List.length_map]
    have e2 : Z.length = M.length := by rw [← hm, List.length_map]
    rw [List.length_map, List.length_map, e1, e2]
  · intro k z y ht hzk hyk hne
    rw [List.getElem?_map, Option.map_eq_some_iff] at hzk hyk
    obtain ⟨e, he, rfl⟩ := hzk
    obtain ⟨f, hf, rfl⟩ := hyk
    have htk : (zApp M U).take k = Z.take k := by
      apply List.ext_getElem?
      intro j
      by_cases hj : j < k
      · have h4 := congrArg (fun l => l[j]?) ht
        simp only [List.getElem?_take, if_pos hj, List.getElem?_map] at h4 ⊢
        have hl := (List.getElem?_eq_some_iff.1 he).1
        have hl2 := (List.getElem?_eq_some_iff.1 hf).1
        obtain ⟨e', he'⟩ : ∃ e', (zApp M U)[j]? = some e' := ⟨_, List.getElem?_eq_getElem (by omega)⟩
        obtain ⟨f', hf'⟩ : ∃ f', Z[j]? = some f' := ⟨_, List.getElem?_eq_getElem (by omega)⟩
        rw [he', hf'] at h4 ⊢
        have e1 : M[j]? = some e'.1 := by rw [← h2, List.getElem?_map, he']; rfl
        have e2 : M[j]? = some f'.1 := by rw [← hm, List.getElem?_map, hf']; rfl
        have e3 : e'.1 = f'.1 := by rw [e1] at e2; exact Option.some.inj e2
        have h5 : zE U e' = zE U f' := by simpa using h4
        unfold zE at h5
        injection h5 with _ k1 k2
        obtain ⟨_, ⟨ya, a1, _⟩, yb, b1, _⟩ := h1.ok e' (List.mem_of_getElem? he')
        obtain ⟨_, ⟨yc, c1, _⟩, yd, d1, _⟩ := hz.ok f' (List.mem_of_getElem? hf')
        rw [nmU_of a1, nmU_of c1] at k1
        rw [nmU_of b1, nmU_of d1] at k2
        have p1 : e'.2.1 = f'.2.1 := Classical.byContradiction fun hn => by have := nm_ne hk hn a1 c1; rw [seq_eq.2 k1] at this; cases this
        have p2 : e'.2.2 = f'.2.2 := Classical.byContradiction fun hn => by have := nm_ne hk hn b1 d1; rw [seq_eq.2 k2] at this; cases this
        rw [show e' = f' from Prod.ext e3 (Prod.ext p1 p2)]
      · rw [List.getElem?_take, if_neg hj, List.getElem?_take, if_neg hj]
    obtain ⟨e3, hlt⟩ := app_least hk hb hz hm htk he hf
    obtain ⟨_, ⟨ya, a1, _⟩, yb, b1, _⟩ := h1.ok e (List.mem_of_getElem? he)
    obtain ⟨_, ⟨yc, c1, _⟩, yd, d1, _⟩ := hz.ok f (List.mem_of_getElem? hf)
    show slt (nmU U e.2.1) (nmU U f.2.1) = true ∨ nmU U e.2.1 = nmU U f.2.1 ∧ slt (nmU U e.2.2) (nmU U f.2.2) = true
    rcases hlt with k1 | ⟨k1, k2⟩
    · left
      rw [nmU_of a1, nmU_of c1]
      exact um_lt hk k1 a1 c1
    · right
      refine ⟨by rw [k1], ?_⟩
      rw [nmU_of b1, nmU_of d1]
      have hne2 : e.2.2 ≠ f.2.2 := fun c => hne (by rw [show e = f from Prod.ext e3 (Prod.ext k1 c)])
      exact um_lt hk (by omega) b1 d1
end Go.Proofs.Ytckbhdokfkabfaa
