/-
  Chapter 50 in plain Lean: the days of the program are a plan, or a window has too little room (earliest deadline first).
-/
import Derived.Test.YtnbhplhhemkniaaAcP50
namespace Go.Proofs.Ytnbhplhhemkniaa

/-! Room without the wrap. -/
def roomP (f t : Int) : Int → List Int → Int
  | _, [] => 0
  | d, c :: r => (if f ≤ d ∧ d ≤ t then c else 0) + roomP f t (d + 1) r
def capsOk (caps : List Int) : Prop := ∀ c ∈ caps, 0 ≤ c ∧ c ≤ 20
theorem roomP_pos {f t : Int} : ∀ {caps : List Int} {d : Int}, capsOk caps → 0 ≤ roomP f t d caps
  | [], _, _ => Int.le_refl 0
  | c :: r, d, h => by
    have h1 := roomP_pos (f := f) (t := t) (d := d + 1) (caps := r) (fun x hx => h x (by simp [hx]))
    have h2 := h c (by simp)
    unfold roomP
    split <;> omega
theorem roomP_le {f t : Int} : ∀ {caps : List Int} {d : Int}, capsOk caps → roomP f t d caps ≤ 20 * caps.length
  | [], _, _ => Int.le_refl 0
  | c :: r, d, h => by
    have h1 := roomP_le (f := f) (t := t) (d := d + 1) (caps := r) (fun x hx => h x (by simp [hx]))
    have h2 := h c (by simp)
    unfold roomP
    simp only [List.length_cons, Int.natCast_add]
    split <;> omega
theorem roomF_P {f t : Int} : ∀ {caps : List Int} {n d : Int}, capsOk caps → 0 ≤ n → n + 20 * caps.length ≤ 100000 → roomF f t n d caps = n + roomP f t d caps
  | [], n, _, _, _, _ => by unfold roomF roomP; omega
  | c :: r, n, d, h, h0, hn => by
    have h2 := h c (by simp)
    simp only [List.length_cons, Int.natCast_add] at hn
    unfold roomF roomP
    by_cases hc : f ≤ d ∧ d ≤ t
    · rw [if_pos hc, if_pos hc, show IntKind.i64.wrap (n + c) = n + c from by rw [IntKind.wrap_i64]; omega]
      rw [roomF_P (fun x hx => h x (by simp [hx])) (by omega) (by omega)]
      omega
    · rw [if_neg hc, if_neg hc, roomF_P (fun x hx => h x (by simp [hx])) (by omega) (by omega)]
      omega
theorem roomP_app (f t : Int) : ∀ (a b : List Int) (d : Int), roomP f t d (a ++ b) = roomP f t d a + roomP f t (d + a.length) b
  | [], b, d => by simp [roomP]
  | c :: r, b, d => by
    show (if f ≤ d ∧ d ≤ t then c else 0) + roomP f t (d + 1) (r ++ b) = ((if f ≤ d ∧ d ≤ t then c else 0) + roomP f t (d + 1) r) + roomP f t (d + ((c :: r).length : Int)) b
    rw [roomP_app f t r b, show d + 1 + (r.length : Int) = d + ((c :: r).length : Int) by rw [List.length_cons]; omega]
    omega
theorem roomP_take {f t d : Int} {caps : List Int} {k : Nat} {c : Int} (h : caps[k]? = some c) : roomP f t d (caps.take (k + 1)) = roomP f t d (caps.take k) + if f ≤ d + k ∧ d + k ≤ t then c else 0 := by
  have hk := (List.getElem?_eq_some_iff.1 h).1
  rw [List.take_add_one, h, Option.toList_some, roomP_app, List.length_take, Nat.min_eq_left (by omega)]
  simp [roomP]
theorem roomP_out {f t : Int} : ∀ (caps : List Int) (d : Int), t < d → roomP f t d caps = 0
  | [], _, _ => rfl
  | c :: r, d, h => by
    unfold roomP
    rw [if_neg (by omega), roomP_out r (d + 1) (by omega)]
    rfl
theorem roomP_before {f t : Int} : ∀ (caps : List Int) (d : Int), d + caps.length ≤ f → roomP f t d caps = 0
  | [], _, _ => rfl
  | c :: r, d, h => by
    simp only [List.length_cons, Int.natCast_add] at h
    unfold roomP
    rw [if_neg (by omega), roomP_before r (d + 1) (by omega)]
    rfl
theorem roomP_mono {f g t : Int} (hfg : f ≤ g) : ∀ {caps : List Int} {d : Int}, capsOk caps → roomP g t d caps ≤ roomP f t d caps
  | [], _, _ => Int.le_refl 0
  | c :: r, d, h => by
    have h1 := roomP_mono (t := t) hfg (d := d + 1) (caps := r) (fun x hx => h x (by simp [hx]))
    have h2 := h c (by simp)
    unfold roomP
    by_cases hg : g ≤ d ∧ d ≤ t
    · rw [if_pos hg, if_pos (by omega)]; omega
    · rw [if_neg hg]; split <;> omega
theorem roomP_cut {f t d : Int} {caps : List Int} {k : Nat} (h : t < d + k) (hk : k ≤ caps.length) : roomP f t d (caps.take k) = roomP f t d caps := by
  conv => rhs; rw [← List.take_append_drop k caps]
  rw [roomP_app, roomP_out (caps.drop k) _ (by rw [List.length_take, Nat.min_eq_left hk]; exact h)]
  omega

/-! The best job of a day. -/
def Avail (js : List Jb) (ds : List Int) (day : Int) (k : Nat) (j : Jb) : Prop := js[k]? = some j ∧ (∃ d, ds[k]? = some d ∧ d < 0) ∧ j.f ≤ day
theorem best_spec {js : List Jb} {ds : List Int} {day : Int} : ∀ (n : Nat), match bestN js ds day n with
    | none => ∀ k j, k < n → ¬ Avail js ds day k j
    | some b => b < n ∧ ∃ jb, Avail js ds day b jb ∧ ∀ k j, k < n → Avail js ds day k j → jb.t ≤ j.t
  | 0 => by unfold bestN; intro k j h; omega
  | n + 1 => by
    have ih := best_spec (js := js) (ds := ds) (day := day) n
    by_cases hav : ∃ j, Avail js ds day n j
    · obtain ⟨j, hj, ⟨d, hd, hd0⟩, hf⟩ := hav
      have hA : Avail js ds day n j := ⟨hj, ⟨d, hd, hd0⟩, hf⟩
      rw [bestN, hj, hd]
      simp only [if_pos (show d < 0 ∧ j.f ≤ day from ⟨hd0, hf⟩)]
      cases hb : bestN js ds day n with
      | none =>
        rw [hb] at ih
        refine ⟨by omega, j, hA, ?_⟩
        intro k j' hk hk'
        by_cases hkn : k = n
        · subst hkn
          have := hk'.1
          rw [hj] at this
          injection this with this
          rw [this]; exact Int.le_refl _
        · exact absurd hk' (ih k j' (by omega))
      | some b =>
        rw [hb] at ih
        obtain ⟨hbn, jb, hjb, hall⟩ := ih
        have hg : js.getD b default = jb := by rw [List.getD, hjb.1]; rfl
        simp only [hg]
        by_cases hlt : j.t < jb.t
        · rw [if_pos hlt]
          refine ⟨by omega, j, hA, ?_⟩
          intro k j' hk hk'
          by_cases hkn : k = n
          · subst hkn
            have := hk'.1
            rw [hj] at this
            injection this with this
            rw [this]; exact Int.le_refl _
          · have := hall k j' (by omega) hk'; omega
        · rw [if_neg hlt]
          refine ⟨by omega, jb, hjb, ?_⟩
          intro k j' hk hk'
          by_cases hkn : k = n
          · subst hkn
            have := hk'.1
            rw [hj] at this
            injection this with this
            rw [← this]; omega
          · exact hall k j' (by omega) hk'
    · have hno : bestN js ds day (n + 1) = bestN js ds day n := by
        rw [bestN]
        split
        · rename_i j d hj hd
          rw [if_neg]
          intro hh
          exact hav ⟨j, hj, ⟨d, hd, hh.1⟩, hh.2⟩
        · rfl
      rw [hno]
      cases hb : bestN js ds day n with
      | none =>
        rw [hb] at ih
        intro k j hk hk'
        by_cases hkn : k = n
        · subst hkn; exact hav ⟨j, hk'⟩
        · exact ih k j (by omega) hk'
      | some b =>
        rw [hb] at ih
        obtain ⟨hbn, jb, hjb, hall⟩ := ih
        refine ⟨by omega, jb, hjb, ?_⟩
        intro k j hk hk'
        by_cases hkn : k = n
        · subst hkn; exact absurd ⟨j, hk'⟩ hav
        · exact hall k j (by omega) hk'

/-! Every job that has a day has one behind its first; no day has more jobs than its capacity. -/
structure Gd (js : List Jb) (first : Int) (caps : List Int) (top : Int) (ds : List Int) : Prop where
  len : ds.length = js.length
  jb : ∀ (k : Nat) (j : Jb) (d : Int), js[k]? = some j → ds[k]? = some d → 0 ≤ d → j.f ≤ d ∧ first ≤ d ∧ d ≤ top
  cnt : ∀ (q : Nat) (c : Int), caps[q]? = some c → first + (q : Int) < top → ((ds.count (first + (q : Int)) : Nat) : Int) ≤ c
theorem step_cases (js : List Jb) (ds : List Int) (day : Int) : (stepD js day ds = ds ∧ ∀ k j, ¬ Avail js ds day k j) ∨
    ∃ b jb, Avail js ds day b jb ∧ stepD js day ds = ds.set b day ∧ ∀ k j, Avail js ds day k j → jb.t ≤ j.t := by
  have h := best_spec (js := js) (ds := ds) (day := day) js.length
  unfold stepD
  cases hb : bestN js ds day js.length with
  | none =>
    rw [hb] at h
    exact .inl ⟨rfl, fun k j hk => h k j (List.getElem?_eq_some_iff.1 hk.1).1 hk⟩
  | some b =>
    rw [hb] at h
    obtain ⟨_, jb, h1, h2⟩ := h
    exact .inr ⟨b, jb, h1, rfl, fun k j hk => h2 k j (List.getElem?_eq_some_iff.1 hk.1).1 hk⟩
theorem count_set_other {ds : List Int} {b : Nat} {d0 day x : Int} (hb : ds[b]? = some d0) (h1 : d0 ≠ x) (h2 : day ≠ x) : (ds.set b day).count x = ds.count x := by
  have hl := List.getElem?_eq_some_iff.1 hb
  rw [List.count_eq_countP, List.count_eq_countP, List.countP_set (h := hl.1), hl.2]
  simp [h1, h2]
theorem count_set_new {ds : List Int} {b : Nat} {d0 day : Int} (hb : ds[b]? = some d0) (h1 : d0 ≠ day) : (ds.set b day).count day = ds.count day + 1 := by
  have hl := List.getElem?_eq_some_iff.1 hb
  rw [List.count_eq_countP, List.count_eq_countP, List.countP_set (h := hl.1), hl.2]
  simp [h1]
structure GdS (js : List Jb) (first : Int) (caps : List Int) (day : Int) (m : Nat) (ds : List Int) : Prop where
  gd : Gd js first caps day ds
  now : ds.count day ≤ m
theorem GdS.step {js : List Jb} {first : Int} {caps : List Int} {day : Int} {m : Nat} {ds : List Int} (h0 : 0 ≤ first) (hd : first ≤ day) (h : GdS js first caps day m ds) : GdS js first caps day (m + 1) (stepD js day ds) := by
  rcases step_cases js ds day with ⟨he, _⟩ | ⟨b, jb, hA, he, _⟩
  · rw [he]; exact ⟨h.gd, by have := h.now; omega⟩
  · obtain ⟨hj, ⟨d0, hd0, hneg⟩, hf⟩ := hA
    have hl := List.getElem?_eq_some_iff.1 hd0
    rw [he]
    refine ⟨⟨by rw [List.length_set]; exact h.gd.len, ?_, ?_⟩, ?_⟩
    · intro k j d hk hd' hpos
      by_cases hkb : b = k
      · subst hkb
        rw [List.getElem?_set_self hl.1] at hd'
        injection hd' with hd'
        rw [hj] at hk
        injection hk with hk
        subst hk hd'
        exact ⟨hf, hd, Int.le_refl _⟩
      · rw [List.getElem?_set_ne hkb] at hd'
        exact h.gd.jb k j d hk hd' hpos
    · intro q c hq hqd
      rw [count_set_other hd0 (by omega) (by omega)]
      exact h.gd.cnt q c hq hqd
    · rw [count_set_new hd0 (by omega)]
      have := h.now; omega
theorem GdS.iter {js : List Jb} {first : Int} {caps : List Int} {day : Int} {ds : List Int} (h0 : 0 ≤ first) (hd : first ≤ day) (h : GdS js first caps day 0 ds) : ∀ m, GdS js first caps day m (iterD js day m ds)
  | 0 => h
  | m + 1 => (GdS.iter h0 hd h m).step h0 hd
theorem count_zero {js : List Jb} {first : Int} {caps : List Int} {k : Nat} {ds : List Int} (hfirst : 0 ≤ first) (h : ∀ (i : Nat) (d : Int), ds[i]? = some d → 0 ≤ d → d < first + (k : Int)) : ds.count (first + (k : Int)) = 0 := by
  rw [List.count_eq_zero]
  intro hm
  obtain ⟨i, hi⟩ := List.getElem?_of_mem hm
  have := h i _ hi (by omega)
  omega
/-- The days before a day of the window are done. -/
structure Gk (js : List Jb) (first : Int) (caps : List Int) (k : Nat) (ds : List Int) : Prop where
  len : ds.length = js.length
  jb : ∀ (i : Nat) (j : Jb) (d : Int), js[i]? = some j → ds[i]? = some d → 0 ≤ d → j.f ≤ d ∧ first ≤ d ∧ d < first + (k : Int)
  cnt : ∀ (q : Nat) (c : Int), caps[q]? = some c → q < k → ((ds.count (first + (q : Int)) : Nat) : Int) ≤ c
theorem Gk.start {js : List Jb} {first : Int} {caps : List Int} : Gk js first caps 0 (List.replicate js.length (-1)) := by
  refine ⟨by simp, ?_, fun q c _ h => by omega⟩
  intro i j d _ hd h
  have := List.getElem?_replicate (n := js.length) (a := (-1 : Int)) (i := i)
  rw [this] at hd
  split at hd
  · injection hd with hd; omega
  · cases hd
theorem Gk.dlt {js : List Jb} {first : Int} {caps : List Int} {k : Nat} {ds : List Int} (h : Gk js first caps k ds) : ∀ (i : Nat) (d : Int), ds[i]? = some d → 0 ≤ d → d < first + (k : Int) := by
  intro i d hd hp
  have hi : i < js.length := by have := (List.getElem?_eq_some_iff.1 hd).1; rw [h.len] at this; exact this
  exact (h.jb i _ d (List.getElem?_eq_getElem hi) hd hp).2.2
theorem Gk.day {js : List Jb} {first : Int} {caps : List Int} {k : Nat} {ds : List Int} {c : Int} (hf : 0 ≤ first) (hok : capsOk caps) (hc : caps[k]? = some c) (h : Gk js first caps k ds) : Gk js first caps (k + 1) (iterD js (first + k) c.toNat ds) := by
  have hs : GdS js first caps (first + k) 0 ds := by
    refine ⟨⟨h.len, ?_, ?_⟩, ?_⟩
    · intro i j d hj hd hp
      have := h.jb i j d hj hd hp
      omega
    · intro q c hq hlt
      exact h.cnt q c hq (by omega)
    · rw [count_zero (js := js) (caps := caps) hf h.dlt]; exact Nat.le_refl _
  have hi := hs.iter hf (by omega) c.toNat
  have hc0 := (hok c (List.mem_of_getElem? hc)).1
  refine ⟨hi.gd.len, ?_, ?_⟩
  · intro i j d hj hd hp
    have := hi.gd.jb i j d hj hd hp
    omega
  · intro q c' hq hlt
    by_cases hqk : q = k
    · subst hqk
      rw [hc] at hq
      injection hq with hq
      subst hq
      have := hi.now
      omega
    · exact hi.gd.cnt q c' hq (by omega)
theorem plan_gk {js : List Jb} {first : Int} {caps : List Int} (hf : 0 ≤ first) (hok : capsOk caps) : ∀ k, k ≤ caps.length → Gk js first caps k (planF js first (caps.take k) (List.replicate js.length (-1)))
  | 0, _ => by simpa [planF] using Gk.start
  | k + 1, hk => by
    have hc := List.getElem?_eq_getElem (show k < caps.length by omega)
    rw [planF_take hc]
    exact (plan_gk hf hok k (by omega)).day hf hok hc
theorem plan_good {js : List Jb} {first : Int} {caps : List Int} (hf : 0 ≤ first) (hok : capsOk caps) : Gk js first caps caps.length (planD js first caps) := by
  have := plan_gk (js := js) hf hok caps.length (Nat.le_refl _)
  rw [List.take_length] at this
  exact this

/-! What is done stays done. -/
theorem step_keep {js : List Jb} {day : Int} {ds : List Int} {k : Nat} {d : Int} (h : ds[k]? = some d) (hd : 0 ≤ d) : (stepD js day ds)[k]? = some d := by
  rcases step_cases js ds day with ⟨he, _⟩ | ⟨b, jb, ⟨_, ⟨d0, hd0, hneg⟩, _⟩, he, _⟩
  · rw [he]; exact h
  · rw [he]
    by_cases hb : b = k
    · subst hb
      rw [hd0] at h
      injection h with h
      omega
    · rw [List.getElem?_set_ne hb]; exact h
theorem iter_keep {js : List Jb} {day : Int} {ds : List Int} {k : Nat} {d : Int} (h : ds[k]? = some d) (hd : 0 ≤ d) : ∀ m, (iterD js day m ds)[k]? = some d
  | 0 => h
  | m + 1 => step_keep (iter_keep h hd m) hd
theorem planF_keep {js : List Jb} {k : Nat} {d : Int} (hd : 0 ≤ d) : ∀ (caps : List Int) (day : Int) (ds : List Int), ds[k]? = some d → (planF js day caps ds)[k]? = some d
  | [], _, _, h => h
  | c :: r, day, ds, h => planF_keep hd r (day + 1) _ (iter_keep h hd c.toNat)
theorem plan_keep {js : List Jb} {first : Int} {caps : List Int} {k i : Nat} {d : Int} (hd : 0 ≤ d) (h : (planF js first (caps.take k) (List.replicate js.length (-1)))[i]? = some d) : (planD js first caps)[i]? = some d := by
  unfold planD
  conv => lhs; rw [← List.take_append_drop k caps]
  rw [planF_app]
  exact planF_keep hd _ _ _ h

/-! A plan is accepted. -/
theorem accS_ok {first : Int} {caps : List Int} {js : List Jb} {days : List Int} (hl : days.length = js.length) (h1 : ∀ (k : Nat) (j : Jb) (d : Int), js[k]? = some j → days[k]? = some d → j.f ≤ d ∧ d ≤ j.t) (h2 : ∀ (k : Nat) (d : Int), days[k]? = some d → ((days.count d : Nat) : Int) ≤ caps.getD (d - first).toNat 0) : ∀ n k, js.length - k = n → k ≤ js.length → accS first caps (days.take k) ((js.zip days).drop k) = 0
  | 0, k, hn, hk => by
    rw [List.drop_of_length_le (by rw [List.length_zip]; omega)]; rfl
  | n + 1, k, hn, hk => by
    have hj := List.getElem?_eq_getElem (show k < js.length by omega)
    have hd := List.getElem?_eq_getElem (show k < days.length by omega)
    have a := h1 k _ _ hj hd
    have b := h2 k _ hd
    have c := count_take (d := days[k]'(by omega)) hd
    rw [if_pos rfl] at c
    have e : (days.take (k + 1)).count (days[k]'(by omega)) ≤ days.count (days[k]'(by omega)) := (List.take_sublist _ _).count_le _
    rw [acc_drop hj hd, if_neg (by omega), if_neg (by omega)]
    exact accS_ok hl h1 h2 n (k + 1) (by omega) (by omega)
/-- and what is accepted is a plan. -/
theorem accS_conv {first : Int} {caps : List Int} {js : List Jb} {days : List Int} (hl : days.length = js.length) : ∀ n k, js.length - k = n → k ≤ js.length → accS first caps (days.take k) ((js.zip days).drop k) = 0 →
    ∀ (i : Nat) (j : Jb) (d : Int), k ≤ i → js[i]? = some j → days[i]? = some d → (j.f ≤ d ∧ d ≤ j.t) ∧ (((days.take (i + 1)).count d : Nat) : Int) ≤ caps.getD (d - first).toNat 0
  | 0, k, hn, hk, _ => by
    intro i j d hi hj _
    have := (List.getElem?_eq_some_iff.1 hj).1
    omega
  | n + 1, k, hn, hk, h => by
    intro i j d hi hj hd
    have hj0 := List.getElem?_eq_getElem (show k < js.length by omega)
    have hd0 := List.getElem?_eq_getElem (show k < days.length by omega)
    rw [acc_drop hj0 hd0] at h
    by_cases g1 : (days[k]'(by omega)) < (js[k]'(by omega)).f ∨ (js[k]'(by omega)).t < (days[k]'(by omega))
    · rw [if_pos g1] at h; omega
    · rw [if_neg g1] at h
      by_cases g2 : caps.getD ((days[k]'(by omega)) - first).toNat 0 ≤ (((days.take k).count (days[k]'(by omega)) : Nat) : Int)
      · rw [if_pos g2] at h; omega
      · rw [if_neg g2] at h
        by_cases hik : i = k
        · subst hik
          rw [hj0] at hj
          rw [hd0] at hd
          injection hj with hj
          injection hd with hd
          subst hj hd
          have c := count_take (d := days[i]'(by omega)) hd0
          rw [if_pos rfl] at c
          exact ⟨by omega, by omega⟩
        · exact accS_conv hl n (k + 1) (by omega) (by omega) h i j d (by omega) hj hd
end Go.Proofs.Ytnbhplhhemkniaa
