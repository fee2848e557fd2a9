/-
  Chapter 50 in plain Lean: the first window in the order of the sorted, compacted lists is the least one.
-/
import Derived.Test.YtnbhplhhemkniaaLib50
namespace Go.Proofs.Ytnbhplhhemkniaa

theorem getE (zs : List Int) {i : Nat} (h : i < zs.length) : zs.toArray[i]! = zs[i] := by simp [h]
theorem upTo_mem (zs : List Int) : ∀ m, m ≤ zs.length → ∀ i (h : i < zs.length), i < m → zs[i] ∈ Lib.compactUpTo zs.toArray m
  | 0, _, i, _, hi => by omega
  | m + 1, hm, i, h, hi => by
    rw [Lib.compactUpTo_succ]
    by_cases him : i = m
    · subst him
      cases hk : Lib.keeps zs.toArray i with
      | true => simp [getE zs h]
      | false =>
        have h0 : 0 < i := by
          rcases Nat.eq_zero_or_pos i with h0 | h0
          · subst h0; rw [Lib.keeps_lt_one _ 0 (by omega)] at hk; cases hk
          · exact h0
        have he : zs[i] = zs[i - 1] := by
          apply Classical.byContradiction
          intro hne
          have := Lib.keeps_pos (d := zs.toArray) (m := i) (by rw [getE zs h, getE zs (show i - 1 < zs.length by omega)]; exact hne)
          rw [hk] at this; cases this
        rw [List.mem_append]
        left
        rw [he]
        exact upTo_mem zs i (by omega) (i - 1) (by omega) (by omega)
    · rw [List.mem_append]
      left
      exact upTo_mem zs m (by omega) i h (by omega)
theorem compact_sub (zs : List Int) : (Lib.compact zs).Sublist zs := by
  unfold Lib.compact Lib.compactUpTo
  have h : (List.range zs.length).map (zs.toArray[·]!) = zs := by
    apply List.ext_getElem
    · simp
    · intro i h1 h2
      simp at h1
      simp [h1]
  conv => rhs; rw [← h]
  exact (List.filter_sublist).map _
theorem mem_compact (zs : List Int) (x : Int) : x ∈ Lib.compact zs ↔ x ∈ zs := by
  constructor
  · exact fun h => (compact_sub zs).subset h
  · intro h
    obtain ⟨i, hi, rfl⟩ := List.getElem_of_mem h
    exact upTo_mem zs zs.length (Nat.le_refl _) i hi hi
theorem compact_head (zs : List Int) : (Lib.compact zs).head? = zs.head? := by
  cases zs with
  | nil => rfl
  | cons a r =>
    have key : ∀ m, (Lib.compactUpTo (a :: r).toArray (m + 1)).head? = some a := by
      intro m
      induction m with
      | zero => rw [Lib.compactUpTo_succ, if_pos (Lib.keeps_lt_one _ 0 (by omega))]; rfl
      | succ m ih => rw [Lib.compactUpTo_succ, List.head?_append, ih]; rfl
    exact key r.length
theorem sortL_mem (zs : List Int) (x : Int) : x ∈ sortL zs ↔ x ∈ zs := List.mem_mergeSort
theorem sortL_sorted (zs : List Int) : (sortL zs).Pairwise (· ≤ ·) := by
  have h := List.pairwise_mergeSort (le := fun (x y : Int) => decide (x ≤ y)) (fun a b c h1 h2 => by simp at *; omega) (fun a b => by simp; omega) zs
  exact h.imp fun h => by simpa using h

/-- What the list of the ends keeps through every call of Compact. -/
structure TInv (js : List Jb) (T : List Int) : Prop where
  all : ∀ b ∈ js, b.t ∈ T
  only : ∀ x ∈ T, x = 0 ∨ ∃ b ∈ js, b.t = x
  ord : (T.filter fun x => decide (0 < x)).Pairwise (· ≤ ·)
  zero : (∃ b ∈ js, b.t = 0) → T.head? = some 0
theorem TInv.start {js : List Jb} (h0 : ∀ b ∈ js, 0 ≤ b.t) : TInv js (sortL (js.map Jb.t)) := by
  refine ⟨fun b hb => (sortL_mem _ _).2 (List.mem_map.2 ⟨b, hb, rfl⟩), fun x hx => ?_, (sortL_sorted _).sublist List.filter_sublist, ?_⟩
  · obtain ⟨b, hb, rfl⟩ := List.mem_map.1 ((sortL_mem _ _).1 hx)
    exact .inr ⟨b, hb, rfl⟩
  · rintro ⟨b, hb, he⟩
    have hm : (0 : Int) ∈ sortL (js.map Jb.t) := (sortL_mem _ _).2 (List.mem_map.2 ⟨b, hb, he⟩)
    have hs := sortL_sorted (js.map Jb.t)
    have hn : ∀ x ∈ sortL (js.map Jb.t), 0 ≤ x := fun x hx => by
      obtain ⟨c, hc, rfl⟩ := List.mem_map.1 ((sortL_mem _ _).1 hx)
      exact h0 c hc
    cases hl : sortL (js.map Jb.t) with
    | nil => rw [hl] at hm; cases hm
    | cons a r =>
      rw [hl] at hm hs hn
      have ha := hn a (by simp)
      rcases List.mem_cons.1 hm with h | h
      · rw [← h]; rfl
      · have := (List.pairwise_cons.1 hs).1 0 h
        have : a = 0 := by omega
        rw [this]; rfl
theorem TInv.compact {js : List Jb} {T : List Int} (h : TInv js T) : TInv js (Lib.compact T) :=
  ⟨fun b hb => (mem_compact _ _).2 (h.all b hb), fun x hx => h.only x ((mem_compact _ _).1 hx), h.ord.sublist ((compact_sub T).filter _), fun hz => by rw [compact_head]; exact h.zero hz⟩
theorem TInv.zeros {js : List Jb} {T : List Int} (h : TInv js T) (n : Nat) : TInv js (T ++ List.replicate n 0) := by
  refine ⟨fun b hb => List.mem_append_left _ (h.all b hb), fun x hx => ?_, ?_, fun hz => ?_⟩
  · rcases List.mem_append.1 hx with h1 | h1
    · exact h.only x h1
    · exact .inl (List.eq_of_mem_replicate h1)
  · rw [List.filter_append]
    have : (List.replicate n (0 : Int)).filter (fun x => decide (0 < x)) = [] := by
      rw [List.filter_eq_nil_iff]; intro x hx; rw [List.eq_of_mem_replicate hx]; simp
    rw [this, List.append_nil]
    exact h.ord
  · rw [List.head?_append, h.zero hz]; rfl

/-! Room is not negative. -/
theorem roomF_rng {f t : Int} : ∀ (caps : List Int) (n d : Int), caps.all capOk = true → 0 ≤ n → n + 20 * caps.length ≤ 1000000 → 0 ≤ roomF f t n d caps ∧ roomF f t n d caps ≤ n + 20 * caps.length
  | [], n, _, _, h0, _ => by unfold roomF; exact ⟨h0, by simp⟩
  | c :: r, n, d, ha, h0, h1 => by
    rw [List.all_cons, Bool.and_eq_true] at ha
    obtain ⟨hc, hr⟩ := ha
    unfold capOk at hc
    simp only [Bool.and_eq_true, decide_eq_true_eq] at hc
    simp only [List.length_cons, Int.natCast_add] at h1 ⊢
    unfold roomF
    split
    · have hw : IntKind.i64.wrap (n + c) = n + c := by rw [IntKind.wrap_i64]; omega
      rw [hw]
      have := roomF_rng (f := f) (t := t) r (n + c) (d + 1) hr (by omega) (by omega)
      omega
    · have := roomF_rng (f := f) (t := t) r n (d + 1) hr h0 (by omega)
      omega
theorem roomT_nn {f t first : Int} {caps : List Int} (h : caps.all capOk = true) (hl : caps.length ≤ 400) : 0 ≤ roomT f t first caps := by
  unfold roomT
  split
  · exact Int.le_refl _
  · exact (roomF_rng caps 0 first h (by omega) (by omega)).1
theorem zero_hit {js : List Jb} {first : Int} {caps : List Int} {a : Int} (hc : caps.all capOk = true) (hl : caps.length ≤ 400) (hj : ∀ j ∈ js, 0 ≤ j.f ∧ j.f ≤ j.t) (h : badW js first caps a 0 = true) : ∃ b ∈ js, b.t = 0 := by
  unfold badW at h
  simp only [Bool.and_eq_true, decide_eq_true_eq] at h
  have hr := roomT_nn (f := a) (t := 0) (first := first) hc hl
  have : 0 < insT js a 0 := by omega
  obtain ⟨b, hb, hi⟩ := List.countP_pos_iff.1 this
  unfold inJ at hi
  simp only [Bool.and_eq_true, decide_eq_true_eq] at hi
  have := hj b hb
  exact ⟨b, hb, by omega⟩

/-- A hit in the order of the two lists is the least window. -/
theorem hit_tight {js : List Jb} {first : Int} {caps : List Int} {SF L : List Int} {i q : Nat} {a b : Int} (hc : caps.all capOk = true) (hl : caps.length ≤ 400) (hj : ∀ j ∈ js, 0 ≤ j.f ∧ j.f ≤ j.t)
    (hs : SF.Pairwise (· ≤ ·)) (hm : ∀ x, x ∈ SF ↔ ∃ j ∈ js, j.f = x) (hT : TInv js L) (ha : SF[i]? = some a) (hb : L[q]? = some b) (hbad : badW js first caps a b = true)
    (hi : ∀ p a', p < i → SF[p]? = some a' → ∀ j ∈ js, badW js first caps a' j.t = false) (hq : ∀ p b', p < q → L[p]? = some b' → badW js first caps a b' = false) : IsTight js first caps a b := by
  have hb0 : ∃ j ∈ js, j.t = b := by
    rcases hT.only b (List.mem_of_getElem? hb) with h | h
    · subst h; exact zero_hit hc hl hj hbad
    · exact h
  refine .inl ⟨⟨(hm a).1 (List.mem_of_getElem? ha), hb0, hbad⟩, ?_⟩
  intro c hcj d hd hcd
  obtain ⟨p, hp⟩ := List.getElem?_of_mem ((hm c.f).2 ⟨c, hcj, rfl⟩)
  by_cases hpi : p < i
  · rw [hi p c.f hpi hp d hd] at hcd; cases hcd
  have hac : a ≤ c.f := by
    by_cases hpe : p = i
    · subst hpe; rw [ha] at hp; injection hp with hp; omega
    · obtain ⟨l1, e1⟩ := List.getElem?_eq_some_iff.1 ha
      obtain ⟨l2, e2⟩ := List.getElem?_eq_some_iff.1 hp
      have := (List.pairwise_iff_getElem.1 hs) i p l1 l2 (by omega)
      omega
  by_cases hlt : a < c.f
  · exact .inl hlt
  have hae : a = c.f := by omega
  refine .inr ⟨hae, ?_⟩
  rw [← hae] at hcd
  have hdn := hj d hd
  obtain ⟨p', hp'⟩ := List.getElem?_of_mem (hT.all d hd)
  by_cases hpq : p' < q
  · rw [hq p' d.t hpq hp'] at hcd; cases hcd
  by_cases hbz : b ≤ 0
  · omega
  by_cases hdz : d.t = 0
  · have hh := hT.zero ⟨d, hd, hdz⟩
    rw [List.head?_eq_getElem?] at hh
    have hq0 : 0 < q := by
      rcases Nat.eq_zero_or_pos q with h | h
      · subst h; rw [hb] at hh; injection hh with hh; omega
      · exact h
    rw [hdz, hq 0 0 hq0 hh] at hcd
    cases hcd
  · by_cases hpe : p' = q
    · subst hpe; rw [hb] at hp'; injection hp' with hp'; omega
    · obtain ⟨l1, e1⟩ := List.getElem?_eq_some_iff.1 hb
      obtain ⟨l2, e2⟩ := List.getElem?_eq_some_iff.1 hp'
      have hord := List.pairwise_filter.1 hT.ord
      have := (List.pairwise_iff_getElem.1 hord) q p' l1 l2 (by omega) (by rw [e1]; simp; omega) (by rw [e2]; simp; omega)
      omega
end Go.Proofs.Ytnbhplhhemkniaa
