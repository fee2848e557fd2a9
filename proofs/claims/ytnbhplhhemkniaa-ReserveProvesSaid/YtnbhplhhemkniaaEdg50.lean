/-
  Chapter 50 in plain Lean: a window with too little room, where the days are no plan; no such window, where there is a plan.
-/
import Derived.Test.YtnbhplhhemkniaaEdf50
namespace Go.Proofs.Ytnbhplhhemkniaa

/-! Jobs done among those inside a window. -/
def dnJ (s T : Int) (z : Jb × Int) : Bool := decide (s ≤ z.1.f) && decide (z.1.t ≤ T) && decide (0 ≤ z.2)
def dnS (js : List Jb) (s T : Int) (ds : List Int) : Nat := (js.zip ds).countP (dnJ s T)
structure Ed (js : List Jb) (T s : Int) (ds : List Int) : Prop where
  und : ∀ (i : Nat) (j : Jb) (d : Int), js[i]? = some j → ds[i]? = some d → d < 0 → j.t ≤ T → s ≤ j.f
theorem zip_set (js : List Jb) (ds : List Int) (b : Nat) (jb : Jb) (day : Int) (h : js[b]? = some jb) : js.zip (ds.set b day) = (js.zip ds).set b (jb, day) := by
  apply List.ext_getElem?
  intro i
  by_cases hb : b = i
  · subst hb
    by_cases hl : b < ds.length
    · have hj := (List.getElem?_eq_some_iff.1 h).1
      rw [List.getElem?_set_self (by rw [List.length_zip]; omega)]
      rw [List.getElem?_zip_eq_some]
      exact ⟨h, List.getElem?_set_self hl⟩
    · rw [List.set_eq_of_length_le (by omega), List.set_eq_of_length_le (by rw [List.length_zip]; omega)]
  · rw [List.getElem?_set_ne hb]
    cases hz : (js.zip ds)[i]? with
    | none =>
      rw [List.getElem?_eq_none_iff] at hz ⊢
      rw [List.length_zip] at hz ⊢
      rw [List.length_set]; exact hz
    | some z =>
      obtain ⟨j, d⟩ := z
      rw [List.getElem?_zip_eq_some] at hz ⊢
      exact ⟨hz.1, by rw [List.getElem?_set_ne hb]; exact hz.2⟩
theorem dnS_set {js : List Jb} {s T : Int} {ds : List Int} {b : Nat} {jb : Jb} {d0 day : Int} (hj : js[b]? = some jb) (hd : ds[b]? = some d0) (h0 : d0 < 0) (hp : 0 ≤ day) :
    dnS js s T (ds.set b day) = dnS js s T ds + if s ≤ jb.f ∧ jb.t ≤ T then 1 else 0 := by
  have hz : (js.zip ds)[b]? = some (jb, d0) := by rw [List.getElem?_zip_eq_some]; exact ⟨hj, hd⟩
  have hl := List.getElem?_eq_some_iff.1 hz
  unfold dnS
  rw [zip_set js ds b jb day hj, List.countP_set (h := hl.1), hl.2]
  have e1 : dnJ s T (jb, d0) = false := by unfold dnJ; simp; omega
  rw [e1]
  by_cases hc : s ≤ jb.f ∧ jb.t ≤ T
  · have e2 : dnJ s T (jb, day) = true := by unfold dnJ; simp; omega
    rw [e2, if_pos hc]; simp
  · have e2 : dnJ s T (jb, day) = false := by unfold dnJ; simp; omega
    rw [e2, if_neg hc]; simp
theorem dnS_zero {js : List Jb} {s T : Int} {ds : List Int} (h : ∀ (i : Nat) (j : Jb) (d : Int), js[i]? = some j → ds[i]? = some d → 0 ≤ d → j.f < s) : dnS js s T ds = 0 := by
  unfold dnS
  rw [List.countP_eq_zero]
  rintro ⟨j, d⟩ hm
  obtain ⟨i, hi⟩ := List.getElem?_of_mem hm
  rw [List.getElem?_zip_eq_some] at hi
  unfold dnJ
  simp
  intro h1 _
  have := h i j d hi.1 hi.2
  omega
theorem dnS_lt {js : List Jb} {s T : Int} {ds : List Int} {i : Nat} {j : Jb} {d : Int} (hl : ds.length = js.length) (hj : js[i]? = some j) (hd : ds[i]? = some d) (hneg : d < 0) (hs : s ≤ j.f) (ht : j.t ≤ T) : dnS js s T ds < insT js s T := by
  have hz : (js.zip ds)[i]? = some (j, d) := by rw [List.getElem?_zip_eq_some]; exact ⟨hj, hd⟩
  have e : insT js s T = (js.zip ds).countP (fun z => inJ s T z.1) := by
    unfold insT
    conv => lhs; rw [show js = (js.zip ds).map Prod.fst from by rw [List.map_fst_zip]; omega]
    rw [List.countP_map]; rfl
  rw [e]
  have key : ∀ (l : List (Jb × Int)), (j, d) ∈ l → l.countP (dnJ s T) < l.countP (fun z => inJ s T z.1) := by
    intro l
    induction l with
    | nil => intro h; cases h
    | cons a r ih =>
      intro h
      have hle : r.countP (dnJ s T) ≤ r.countP (fun z => inJ s T z.1) := List.countP_mono_left (fun z _ hz => by unfold dnJ at hz; unfold inJ; simp at hz ⊢; exact hz.1)
      rw [List.countP_cons, List.countP_cons]
      have hx : (if dnJ s T a = true then 1 else 0) ≤ (if inJ s T a.1 = true then 1 else 0) := by
        by_cases hd : dnJ s T a = true
        · rw [if_pos hd, if_pos (by unfold dnJ at hd; unfold inJ; simp at hd ⊢; exact hd.1)]; exact Nat.le_refl _
        · rw [if_neg hd]; exact Nat.zero_le _
      rcases List.mem_cons.1 h with rfl | h
      · rw [if_neg (show ¬ dnJ s T (j, d) = true by unfold dnJ; simp; omega), if_pos (show inJ s T j = true by unfold inJ; simp; omega)]
        omega
      · have := ih h; omega
  exact key _ (List.mem_of_getElem? hz)
/-- Behind the days before day k: there is a first day s from which every slot went to a job with a last day of at most T and a first day of at least s; what is not done of those is not there before s. -/
def InvD (js : List Jb) (first : Int) (caps : List Int) (T : Int) (k : Nat) (ds : List Int) : Prop :=
  ∃ s, first ≤ s ∧ Ed js T s ds ∧ ((dnS js s T ds : Nat) : Int) = roomP s T first (caps.take k)
def InvS (js : List Jb) (first : Int) (caps : List Int) (T : Int) (k m : Nat) (ds : List Int) : Prop :=
  (∃ s, first ≤ s ∧ s ≤ first + k ∧ Ed js T s ds ∧ ((dnS js s T ds : Nat) : Int) = roomP s T first (caps.take k) + m) ∨ Ed js T (first + k + 1) ds
theorem InvS.step {js : List Jb} {first : Int} {caps : List Int} {T : Int} {k m : Nat} {ds : List Int} (h0 : 0 ≤ first) (h : InvS js first caps T k m ds) : InvS js first caps T k (m + 1) (stepD js (first + k) ds) := by
  have hEd : ∀ {s : Int} {b : Nat} {d0 : Int}, ds[b]? = some d0 → Ed js T s ds → Ed js T s (ds.set b (first + k)) := by
    intro s b d0 hd0 he
    refine ⟨fun i j d hj hd hneg ht => ?_⟩
    by_cases hb : b = i
    · subst hb
      rw [List.getElem?_set_self (List.getElem?_eq_some_iff.1 hd0).1] at hd
      injection hd with hd; omega
    · rw [List.getElem?_set_ne hb] at hd
      exact he.und i j d hj hd hneg ht
  rcases step_cases js ds (first + k) with ⟨he, hno⟩ | ⟨b, jb, hA, he, hbest⟩
  · rw [he]
    refine .inr ⟨fun i j d hj hd hneg ht => ?_⟩
    have := hno i j
    apply Classical.byContradiction
    intro hlt
    exact this ⟨hj, ⟨d, hd, hneg⟩, by omega⟩
  · obtain ⟨hj, ⟨d0, hd0, hneg⟩, hf⟩ := id hA
    rw [he]
    by_cases hT : jb.t ≤ T
    · rcases h with ⟨s, hs0, hs1, hed, hcnt⟩ | hed
      · have hsf := hed.und b jb d0 hj hd0 hneg hT
        refine .inl ⟨s, hs0, hs1, hEd hd0 hed, ?_⟩
        rw [dnS_set hj hd0 hneg (by omega), if_pos ⟨hsf, hT⟩]
        omega
      · have := hed.und b jb d0 hj hd0 hneg hT
        omega
    · refine .inr (hEd hd0 ⟨fun i j d hji hdi hn ht => ?_⟩)
      apply Classical.byContradiction
      intro hlt
      have := hbest i j ⟨hji, ⟨d, hdi, hn⟩, by omega⟩
      omega
theorem InvS.iter {js : List Jb} {first : Int} {caps : List Int} {T : Int} {k : Nat} {ds : List Int} (h0 : 0 ≤ first) (h : InvS js first caps T k 0 ds) : ∀ m, InvS js first caps T k m (iterD js (first + k) m ds)
  | 0 => h
  | m + 1 => (InvS.iter h0 h m).step h0
theorem plan_inv {js : List Jb} {first : Int} {caps : List Int} {T : Int} (hf : 0 ≤ first) (hok : capsOk caps) (hjf : ∀ j ∈ js, first ≤ j.f) : ∀ k, k ≤ caps.length → first + (k : Int) ≤ T + 1 →
    ∃ s, first ≤ s ∧ s ≤ first + (k : Int) ∧ Ed js T s (planF js first (caps.take k) (List.replicate js.length (-1))) ∧ ((dnS js s T (planF js first (caps.take k) (List.replicate js.length (-1))) : Nat) : Int) = roomP s T first (caps.take k)
  | 0, _, _ => by
    refine ⟨first, Int.le_refl _, by omega, ⟨fun i j d hj _ _ _ => hjf j (List.mem_of_getElem? hj)⟩, ?_⟩
    rw [dnS_zero]
    · rfl
    · intro i j d hj hd hp
      have := (Gk.start (js := js) (first := first) (caps := caps)).jb i j d hj (by simpa [planF] using hd) hp
      omega
  | k + 1, hk, hT => by
    have hc := List.getElem?_eq_getElem (show k < caps.length by omega)
    obtain ⟨s, hs0, hs1, hed, hcnt⟩ := plan_inv (T := T) hf hok hjf k (by omega) (by omega)
    have hg := plan_gk (js := js) hf hok (k + 1) hk
    rw [planF_take hc] at hg ⊢
    have hc0 := hok _ (List.mem_of_getElem? hc)
    have hi := InvS.iter (caps := caps) (T := T) (k := k) hf (.inl ⟨s, hs0, hs1, hed, by rw [hcnt]; omega⟩) (caps[k]'(by omega)).toNat
    rcases hi with ⟨s', g0, g1, ged, gcnt⟩ | ged
    · refine ⟨s', g0, by omega, ged, ?_⟩
      rw [gcnt, roomP_take hc, if_pos (by omega)]
      omega
    · refine ⟨first + k + 1, by omega, by omega, ged, ?_⟩
      rw [dnS_zero, roomP_before]
      · rfl
      · rw [List.length_take]; omega
      · intro i j d hj hd hp
        have := hg.jb i j d hj hd hp
        omega
theorem ins_pos {js : List Jb} {s T : Int} (h : 0 < insT js s T) : ∃ a ∈ js, s ≤ a.f ∧ a.t ≤ T ∧ ∀ b ∈ js, s ≤ b.f → b.t ≤ T → a.f ≤ b.f := by
  induction js with
  | nil => simp [insT] at h
  | cons c r ih =>
    by_cases hr : 0 < insT r s T
    · obtain ⟨a, ha, h1, h2, h3⟩ := ih hr
      by_cases hc : (s ≤ c.f ∧ c.t ≤ T) ∧ c.f < a.f
      · refine ⟨c, by simp, hc.1.1, hc.1.2, ?_⟩
        intro b hb g1 g2
        rcases List.mem_cons.1 hb with rfl | hb
        · exact Int.le_refl _
        · have := h3 b hb g1 g2; omega
      · refine ⟨a, by simp [ha], h1, h2, ?_⟩
        intro b hb g1 g2
        rcases List.mem_cons.1 hb with rfl | hb
        · omega
        · exact h3 b hb g1 g2
    · have hc : inJ s T c = true := by
        unfold insT at h hr
        rw [List.countP_cons] at h
        apply Classical.byContradiction
        intro hn
        rw [if_neg hn] at h
        omega
      have hc2 : s ≤ c.f ∧ c.t ≤ T := by unfold inJ at hc; simpa using hc
      refine ⟨c, by simp, hc2.1, hc2.2, ?_⟩
      intro b hb g1 g2
      rcases List.mem_cons.1 hb with rfl | hb
      · exact Int.le_refl _
      · exfalso
        apply hr
        unfold insT
        exact List.countP_pos_iff.2 ⟨b, hb, by unfold inJ; simp; omega⟩
theorem roomT_P {f t first : Int} {caps : List Int} (hf0 : 0 ≤ first) (hf1 : first ≤ 109172) (hok : capsOk caps) (hl : caps.length ≤ 400) : roomT f t first caps = roomP f t first caps := by
  unfold roomT
  rw [if_neg (by omega), roomF_P hok (Int.le_refl 0) (by omega)]
  omega
/-- Where the days are no plan, a window from a first day to a last day of two jobs has too little room. -/
theorem late_bad {js : List Jb} {first : Int} {caps : List Int} (hf0 : 0 ≤ first) (hf1 : first ≤ 109172) (hok : capsOk caps) (hl : caps.length ≤ 400) (hjs : ∀ j ∈ js, first ≤ j.f ∧ j.f ≤ j.t ∧ j.t ≤ first + caps.length - 1)
    (h : planOk js first caps = false) : ∃ a ∈ js, ∃ b ∈ js, badW js first caps a.f b.t = true := by
  unfold planOk at h
  simp only [Bool.not_eq_false'] at h
  obtain ⟨⟨j, d⟩, hm, hlate⟩ := List.any_eq_true.1 h
  obtain ⟨i, hi⟩ := List.getElem?_of_mem hm
  rw [List.getElem?_zip_eq_some] at hi
  have hj : js[i]? = some j := hi.1
  have hd : (planD js first caps)[i]? = some d := hi.2
  have hlate : d < 0 ∨ j.t < d := by unfold lateJ at hlate; simpa using hlate
  have hjm := List.mem_of_getElem? hj
  obtain ⟨h1, h2, h3⟩ := hjs j hjm
  obtain ⟨k, hk⟩ : ∃ k : Nat, (k : Int) = j.t + 1 - first := ⟨(j.t + 1 - first).toNat, by omega⟩
  have hkl : k ≤ caps.length := by omega
  obtain ⟨s, hs0, hs1, hed, hcnt⟩ := plan_inv (js := js) (T := j.t) hf0 hok (fun j hj => (hjs j hj).1) k hkl (by omega)
  have hg := plan_gk (js := js) hf0 hok k hkl
  have hil : i < js.length := (List.getElem?_eq_some_iff.1 hj).1
  obtain ⟨d', hd'⟩ : ∃ d', (planF js first (caps.take k) (List.replicate js.length (-1)))[i]? = some d' := ⟨_, List.getElem?_eq_getElem (by rw [hg.len]; exact hil)⟩
  have hneg : d' < 0 := by
    apply Classical.byContradiction
    intro hn
    have e := plan_keep (by omega) hd'
    rw [hd] at e
    injection e with e
    have := hg.jb i j d' hj hd' (by omega)
    omega
  have hsf := hed.und i j d' hj hd' hneg (Int.le_refl _)
  have hlt := dnS_lt hg.len hj hd' hneg hsf (Int.le_refl _)
  rw [roomP_cut (by omega) hkl] at hcnt
  obtain ⟨a, ha, ha1, ha2, ha3⟩ := ins_pos (s := s) (T := j.t) (js := js) (Nat.lt_of_le_of_lt (Nat.zero_le _) hlt)
  refine ⟨a, ha, j, hjm, ?_⟩
  have hins : insT js a.f j.t = insT js s j.t := by
    unfold insT
    apply List.countP_congr
    intro b hb
    unfold inJ
    simp
    intro hbt
    constructor
    · intro hx; omega
    · intro hx; exact ha3 b hb hx hbt
  have hmono := roomP_mono (f := s) (g := a.f) (t := j.t) ha1 (d := first) hok
  have haf := hjs a ha
  unfold badW
  rw [roomT_P hf0 hf1 hok hl, hins]
  simp
  omega
/-- Days that are accepted leave room in every window. -/
theorem acc_room {js : List Jb} {first : Int} {caps days : List Int} (hf0 : 0 ≤ first) (hf1 : first ≤ 109172) (hok : capsOk caps) (hl : caps.length ≤ 400) (hjs : ∀ j ∈ js, first ≤ j.f ∧ j.f ≤ j.t ∧ j.t ≤ first + caps.length - 1)
    (hdl : days.length = js.length) (h : accS first caps [] (js.zip days) = 0) (f t : Int) : (insT js f t : Int) ≤ roomT f t first caps := by
  rw [roomT_P hf0 hf1 hok hl]
  have hc := accS_conv hdl js.length 0 (by omega) (by omega) h
  have hin : ∀ (i : Nat) (j : Jb) (d : Int), js[i]? = some j → days[i]? = some d → j.f ≤ d ∧ d ≤ j.t := fun i j d hj hd => (hc i j d (Nat.zero_le _) hj hd).1
  have hcnt : ∀ (q : Nat) (c : Int), caps[q]? = some c → ((days.count (first + (q : Int)) : Nat) : Int) ≤ c := by
    intro q c hq
    have key : ∀ n, n ≤ days.length → (((days.take n).count (first + (q : Int)) : Nat) : Int) ≤ c := by
      intro n
      induction n with
      | zero => intro _; have := (hok c (List.mem_of_getElem? hq)).1; simpa using this
      | succ n ih =>
        intro hn
        have hd := List.getElem?_eq_getElem (show n < days.length by omega)
        have hj := List.getElem?_eq_getElem (show n < js.length by omega)
        by_cases he : days[n]'(by omega) = first + (q : Int)
        · have := (hc n _ _ (Nat.zero_le _) hj hd).2
          rw [he, show (first + (q : Int) - first).toNat = q by omega, List.getD, hq] at this
          exact this
        · have := count_take (d := first + (q : Int)) hd
          rw [if_neg he] at this
          rw [this]
          exact ih (by omega)
    have := key days.length (Nat.le_refl _)
    rwa [List.take_length] at this
  have h1 : insT js f t ≤ days.countP (fun d => decide (f ≤ d) && decide (d ≤ t)) := by
    have e1 : insT js f t = (js.zip days).countP (fun z => inJ f t z.1) := by
      unfold insT
      conv => lhs; rw [show js = (js.zip days).map Prod.fst from by rw [List.map_fst_zip]; omega]
      rw [List.countP_map]; rfl
    have e2 : days.countP (fun d => decide (f ≤ d) && decide (d ≤ t)) = (js.zip days).countP (fun z => decide (f ≤ z.2) && decide (z.2 ≤ t)) := by
      conv => lhs; rw [show days = (js.zip days).map Prod.snd from by rw [List.map_snd_zip]; omega]
      rw [List.countP_map]; rfl
    rw [e1, e2]
    apply List.countP_mono_left
    rintro ⟨j, d⟩ hm hz
    obtain ⟨i, hi⟩ := List.getElem?_of_mem hm
    rw [List.getElem?_zip_eq_some] at hi
    have := hin i j d hi.1 hi.2
    unfold inJ at hz
    simp at hz ⊢
    omega
  have h2 : ∀ n, n ≤ caps.length → ((days.countP (fun d => (decide (f ≤ d) && decide (d ≤ t)) && decide (d < first + (n : Int))) : Nat) : Int) ≤ roomP f t first (caps.take n) := by
    intro n
    induction n with
    | zero =>
      intro _
      rw [show days.countP _ = 0 from ?_]
      · exact Int.le_refl 0
      · rw [List.countP_eq_zero]
        intro d hd
        obtain ⟨i, hi⟩ := List.getElem?_of_mem hd
        have hj := List.getElem?_eq_getElem (show i < js.length by have := (List.getElem?_eq_some_iff.1 hi).1; omega)
        have := hin i _ d hj hi
        have := hjs _ (List.mem_of_getElem? hj)
        simp
        omega
    | succ n ih =>
      intro hn
      have hq := List.getElem?_eq_getElem (show n < caps.length by omega)
      rw [roomP_take hq]
      have ihn := ih (by omega)
      have hcn := hcnt n _ hq
      have hc0 := (hok _ (List.mem_of_getElem? hq)).1
      have key : ∀ l : List Int, l.countP (fun d => (decide (f ≤ d) && decide (d ≤ t)) && decide (d < first + ((n + 1 : Nat) : Int))) = l.countP (fun d => (decide (f ≤ d) && decide (d ≤ t)) && decide (d < first + (n : Int))) + if f ≤ first + (n : Int) ∧ first + (n : Int) ≤ t then l.count (first + (n : Int)) else 0 := by
        intro l
        induction l with
        | nil => simp
        | cons x r ihr =>
          rw [List.countP_cons, List.countP_cons, List.count_cons, ihr]
          by_cases hx : x = first + (n : Int)
          · subst hx
            by_cases hin : f ≤ first + (n : Int) ∧ first + (n : Int) ≤ t
            · have e1 : ((decide (f ≤ first + (n : Int)) && decide (first + (n : Int) ≤ t)) && decide (first + (n : Int) < first + ((n + 1 : Nat) : Int))) = true := by simp; omega
              have e2 : ((decide (f ≤ first + (n : Int)) && decide (first + (n : Int) ≤ t)) && decide (first + (n : Int) < first + (n : Int))) = false := by simp
              rw [if_pos hin, if_pos hin, e1, e2]
              simp
              omega
            · have e1 : ((decide (f ≤ first + (n : Int)) && decide (first + (n : Int) ≤ t)) && decide (first + (n : Int) < first + ((n + 1 : Nat) : Int))) = false := by simp; omega
              have e2 : ((decide (f ≤ first + (n : Int)) && decide (first + (n : Int) ≤ t)) && decide (first + (n : Int) < first + (n : Int))) = false := by simp
              rw [if_neg hin, if_neg hin, e1, e2]
              simp
          · have e : ((decide (f ≤ x) && decide (x ≤ t)) && decide (x < first + ((n + 1 : Nat) : Int))) = ((decide (f ≤ x) && decide (x ≤ t)) && decide (x < first + (n : Int))) := by
              congr 1
              apply decide_eq_decide.2
              omega
            rw [e, show (x == first + (n : Int)) = false from by rw [beq_eq_false_iff_ne]; exact hx]
            simp
            omega
      rw [key]
      split <;> omega
  have h3 := h2 caps.length (Nat.le_refl _)
  rw [List.take_length] at h3
  have h4 : days.countP (fun d => decide (f ≤ d) && decide (d ≤ t)) = days.countP (fun d => (decide (f ≤ d) && decide (d ≤ t)) && decide (d < first + (caps.length : Int))) := by
    apply List.countP_congr
    intro d hd
    obtain ⟨i, hi⟩ := List.getElem?_of_mem hd
    have hj := List.getElem?_eq_getElem (show i < js.length by have := (List.getElem?_eq_some_iff.1 hi).1; omega)
    have := hin i _ d hj hi
    have := hjs _ (List.mem_of_getElem? hj)
    simp
    omega
  omega
/-- The days are accepted where they are a plan. -/
theorem plan_acc {js : List Jb} {first : Int} {caps : List Int} (hf0 : 0 ≤ first) (hok : capsOk caps) (h : planOk js first caps = true) : accS first caps [] (js.zip (planD js first caps)) = 0 := by
  have hg := plan_good (js := js) hf0 hok
  unfold planOk at h
  simp only [Bool.not_eq_true', Bool.not_eq_eq_eq_not, Bool.not_true] at h
  have hl : ∀ (i : Nat) (j : Jb) (d : Int), js[i]? = some j → (planD js first caps)[i]? = some d → 0 ≤ d ∧ d ≤ j.t := by
    intro i j d hj hd
    have hz : (js.zip (planD js first caps))[i]? = some (j, d) := by rw [List.getElem?_zip_eq_some]; exact ⟨hj, hd⟩
    have := List.any_eq_false.1 h _ (List.mem_of_getElem? hz)
    unfold lateJ at this
    simp at this
    exact this
  refine accS_ok hg.len ?_ ?_ js.length 0 (by omega) (by omega)
  · intro k j d hj hd
    have h1 := hl k j d hj hd
    exact ⟨(hg.jb k j d hj hd h1.1).1, h1.2⟩
  · intro k d hd
    have hk : k < js.length := by have := (List.getElem?_eq_some_iff.1 hd).1; rw [hg.len] at this; exact this
    have hj := List.getElem?_eq_getElem hk
    have h1 := hl k _ d hj hd
    have h2 := hg.jb k _ d hj hd h1.1
    obtain ⟨q, rfl⟩ : ∃ q : Nat, d = first + (q : Int) := ⟨(d - first).toNat, by omega⟩
    have hq := List.getElem?_eq_getElem (show q < caps.length by omega)
    have := hg.cnt q _ hq (by omega)
    rw [show (first + (q : Int) - first).toNat = q by omega, List.getD, hq]
    exact this
end Go.Proofs.Ytnbhplhhemkniaa
