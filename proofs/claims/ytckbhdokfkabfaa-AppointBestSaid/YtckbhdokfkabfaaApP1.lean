/-
  Chapter 55, plain: placing umpires one by one (place, fill): what a success and what a failure say.
-/
set_option linter.unusedSimpArgs false
set_option linter.unusedVariables false
namespace Go.Proofs.Ytckbhdokfkabfaa
def uG (us : List Int) (u : Nat) : Int := us[u]?.getD (-2)
def sG (se : List Bool) (u : Nat) : Bool := se[u]?.getD true
def rG (may : List (List Bool)) (x : Nat) : List Bool := may[x]?.getD []
def bG (r : List Bool) (u : Nat) : Bool := r[u]?.getD false
def cntU (us : List Int) (x : Nat) : Nat := us.count (x : Int)
def rowF (rec : Nat → List Int → List Bool → Bool × List Int × List Bool) (m : Nat) : List Bool → Nat → List Int → List Bool → Bool × List Int × List Bool
  | [], _, us, se => (false, us, se)
  | b :: r, u, us, se =>
    if b = false ∨ sG se u = true ∨ uG us u = -2 then rowF rec m r (u + 1) us se
    else if uG us u = -1 then (true, us.set u m, se.set u true)
    else
      if (rec (uG us u).toNat us (se.set u true)).1 = true then
        (true, (rec (uG us u).toNat us (se.set u true)).2.1.set u m, (rec (uG us u).toNat us (se.set u true)).2.2)
      else rowF rec m r (u + 1) (rec (uG us u).toNat us (se.set u true)).2.1 (rec (uG us u).toNat us (se.set u true)).2.2
def placeF (may : List (List Bool)) : Nat → Nat → List Int → List Bool → Bool × List Int × List Bool
  | 0, _, us, se => (false, us, se)
  | f + 1, m, us, se => rowF (placeF may f) m (rG may m) 0 us se
theorem uG_lt {us : List Int} {u : Nat} (h : uG us u ≠ -2) : u < us.length := by
  apply Classical.byContradiction
  intro hn
  exact h (by unfold uG; rw [List.getElem?_eq_none (by omega)]; rfl)
theorem sG_lt {se : List Bool} {u : Nat} (h : sG se u = false) : u < se.length := by
  apply Classical.byContradiction
  intro hn
  unfold sG at h
  rw [List.getElem?_eq_none (by omega)] at h
  cases h
theorem uG_set {us : List Int} {u : Nat} (h : u < us.length) (v : Int) (j : Nat) : uG (us.set u v) j = if j = u then v else uG us j := by
  unfold uG
  by_cases e : j = u
  · subst e; rw [if_pos rfl, List.getElem?_set_self h]; rfl
  · rw [if_neg e, List.getElem?_set_ne (fun x => e x.symm)]
theorem sG_set {se : List Bool} {u : Nat} (h : u < se.length) (v : Bool) (j : Nat) : sG (se.set u v) j = if j = u then v else sG se j := by
  unfold sG
  by_cases e : j = u
  · subst e; rw [if_pos rfl, List.getElem?_set_self h]; rfl
  · rw [if_neg e, List.getElem?_set_ne (fun x => e x.symm)]
theorem count_set' {α : Type} [DecidableEq α] (l : List α) (u : Nat) (v x y : α) (h : l[u]? = some y) : (l.set u v).count x + (if y = x then 1 else 0) = l.count x + (if v = x then 1 else 0) := by
  induction l generalizing u with
  | nil => simp at h
  | cons a l ih =>
    cases u with
    | zero =>
      simp at h; subst h
      simp only [List.set_cons_zero, List.count_cons]
      by_cases h1 : a = x <;> by_cases h2 : v = x <;> simp [h1, h2]
    | succ u =>
      simp at h
      have := ih u h
      simp only [List.set_cons_succ, List.count_cons]
      omega
theorem cntU_set {us : List Int} {u : Nat} (h : u < us.length) (v : Int) (x : Nat) : cntU (us.set u v) x + (if uG us u = (x : Int) then 1 else 0) = cntU us x + (if v = (x : Int) then 1 else 0) := by
  have h1 : us[u]? = some (uG us u) := by unfold uG; rw [List.getElem?_eq_getElem h]; rfl
  exact count_set' us u v (x : Int) _ h1
/-- Whoever stands, stands in a match that there is and may stand in it. -/
def Val (may : List (List Bool)) (nm : Nat) (us : List Int) : Prop := ∀ u, uG us u = -2 ∨ uG us u = -1 ∨ ∃ x : Nat, x < nm ∧ uG us u = (x : Int) ∧ bG (rG may x) u = true
/-- A set of matches whose umpires all stand in it. -/
def Clo (may : List (List Bool)) (us : List Int) (C : Nat → Prop) : Prop := ∀ x, C x → ∀ u, bG (rG may x) u = true → uG us u ≠ -2 → ∃ y : Nat, uG us u = (y : Int) ∧ C y
structure PlOk (may : List (List Bool)) (nm m : Nat) (us : List Int) (se : List Bool) (b : Bool) (us' : List Int) (se' : List Bool) : Prop where
  fail : b = false → us' = us
  ulen : us'.length = us.length
  slen : se'.length = se.length
  mono : ∀ u, sG se u = true → sG se' u = true
  keep : ∀ u, sG se u = true → uG us' u = uG us u
  bar : ∀ u, uG us' u = -2 ↔ uG us u = -2
  val : Val may nm us'
  cnt : b = true → ∀ x, cntU us' x = cntU us x + if x = m then 1 else 0
  stay : b = true → ∀ C : Nat → Prop, Clo may us C → ¬ C m ∧ ∀ u y, C y → (uG us' u = (y : Int) ↔ uG us u = (y : Int))
theorem PlOk.none {may : List (List Bool)} {nm m : Nat} {us : List Int} {se : List Bool} (h : Val may nm us) : PlOk may nm m us se false us se :=
  ⟨fun _ => rfl, rfl, rfl, fun _ h => h, fun _ _ => rfl, fun _ => Iff.rfl, h, (fun h => by cases h), fun h => by cases h⟩
theorem row_ok {may : List (List Bool)} {nm m : Nat} (rec : Nat → List Int → List Bool → Bool × List Int × List Bool) (hm : m < nm)
    (hrec : ∀ x us se, x < nm → Val may nm us → PlOk may nm x us se (rec x us se).1 (rec x us se).2.1 (rec x us se).2.2) :
    ∀ (r : List Bool) (u : Nat) (us : List Int) (se : List Bool), (∀ j, bG r j = bG (rG may m) (u + j)) → Val may nm us →
      PlOk may nm m us se (rowF rec m r u us se).1 (rowF rec m r u us se).2.1 (rowF rec m r u us se).2.2 := by
  intro r
  induction r with
  | nil => intro u us se _ hv; exact PlOk.none hv
  | cons b r ih =>
    intro u us se hr hv
    have hr' : ∀ j, bG r j = bG (rG may m) (u + 1 + j) := fun j => by
      have := hr (j + 1)
      rw [show u + 1 + j = u + (j + 1) by omega, ← this]
      rfl
    unfold rowF
    by_cases h1 : b = false ∨ sG se u = true ∨ uG us u = -2
    · rw [if_pos h1]
      exact ih (u + 1) us se hr' hv
    · rw [if_neg h1]
      have hb : b = true := by cases b <;> simp_all
      have hs : sG se u = false := by cases h : sG se u <;> simp_all
      have hu : uG us u ≠ -2 := fun e => h1 (Or.inr (Or.inr e))
      have hmay : bG (rG may m) u = true := by have := hr 0; simpa [bG, hb] using this.symm
      have hul := uG_lt hu
      have hsl := sG_lt hs
      by_cases h2 : uG us u = -1
      · rw [if_pos h2]
        refine ⟨(fun h => by cases h), by simp, by simp, fun j hj => ?_, fun j hj => ?_, fun j => ?_, fun j => ?_, fun _ x => ?_, fun _ C hC => ?_⟩
        · rw [sG_set hsl]; split <;> simp_all
        · rw [uG_set hul, if_neg (fun e => by rw [e, hs] at hj; cases hj)]
        · rw [uG_set hul]
          split
          · rename_i e; subst e; constructor <;> intro h <;> omega
          · exact Iff.rfl
        · rw [uG_set hul]
          split
          · rename_i e; subst e; exact Or.inr (Or.inr ⟨m, hm, rfl, hmay⟩)
          · exact hv j
        · have h3 := cntU_set hul (m : Int) x
          rw [h2] at h3
          by_cases hx : x = m
          · subst hx
            rw [if_pos rfl] at h3 ⊢
            rw [if_neg (by omega)] at h3
            exact h3
          · rw [if_neg (by omega), if_neg (by omega)] at h3
            rw [if_neg hx]
            exact h3
        · have hnm : ¬ C m := fun hc => by
            obtain ⟨y, hy, _⟩ := hC m hc u hmay hu
            omega
          refine ⟨hnm, fun j y hy => ?_⟩
          rw [uG_set hul]
          split
          · rename_i e; subst e
            constructor
            · intro h; exact (hnm (by have : y = m := by omega
                                      rw [← this]; exact hy)).elim
            · intro h; omega
          · exact Iff.rfl
      · rw [if_neg h2]
        obtain ⟨v, hvn, hve, hvm⟩ : ∃ x : Nat, x < nm ∧ uG us u = (x : Int) ∧ bG (rG may x) u = true := by
          rcases hv u with h | h | h
          · exact (hu h).elim
          · exact (h2 h).elim
          · exact h
        rw [hve, show ((v : Int)).toNat = v by omega]
        have hk := hrec v us (se.set u true) hvn hv
        obtain ⟨R, hR⟩ : ∃ R, rec v us (se.set u true) = R := ⟨_, rfl⟩
        rw [hR] at hk ⊢
        have hs1 : sG (se.set u true) u = true := by rw [sG_set hsl, if_pos rfl]
        have hmono1 : ∀ j, sG se j = true → sG (se.set u true) j = true := fun j hj => by rw [sG_set hsl]; split <;> simp_all
        by_cases h3 : R.1 = true
        · rw [if_pos h3]
          have hlen := hk.ulen
          have hul' : u < R.2.1.length := by omega
          have hku := hk.keep u hs1
          refine ⟨(fun h => by cases h), by simp [hlen], by have := hk.slen; simpa using this, fun j hj => hk.mono j (hmono1 j hj), fun j hj => ?_, fun j => ?_, fun j => ?_, fun _ x => ?_, fun _ C hC => ?_⟩
          · show uG (R.2.1.set u m) j = _
            rw [uG_set hul', if_neg (fun e => by rw [e, hs] at hj; cases hj)]
            exact hk.keep j (hmono1 j hj)
          · show uG (R.2.1.set u m) j = -2 ↔ _
            rw [uG_set hul']
            split
            · rename_i e; subst e; constructor <;> intro h <;> omega
            · exact hk.bar j
          · show uG (R.2.1.set u m) j = -2 ∨ _
            rw [uG_set hul']
            split
            · rename_i e; subst e; exact Or.inr (Or.inr ⟨m, hm, rfl, hmay⟩)
            · exact hk.val j
          · show cntU (R.2.1.set u m) x = _
            have h4 := cntU_set hul' (m : Int) x
            have h5 := hk.cnt h3 x
            rw [hku, hve, h5] at h4
            by_cases e1 : x = v <;> by_cases e2 : x = m
            · subst e1; subst e2; simp at h4 ⊢; omega
            · subst e1
              rw [if_pos rfl, if_pos rfl, if_neg (by omega)] at h4
              rw [if_neg e2]; omega
            · subst e2
              rw [if_neg (by omega), if_neg e1, if_pos rfl] at h4
              rw [if_pos rfl]; omega
            · rw [if_neg (by omega), if_neg e1, if_neg (by omega)] at h4
              rw [if_neg e2]; omega
          · obtain ⟨hcv, hst⟩ := hk.stay h3 C hC
            have hnm : ¬ C m := fun hc => by
              obtain ⟨y, hy, hyc⟩ := hC m hc u hmay hu
              exact hcv (by have : v = y := by omega
                            rw [this]; exact hyc)
            refine ⟨hnm, fun j y hy => ?_⟩
            show uG (R.2.1.set u m) j = _ ↔ _
            rw [uG_set hul']
            split
            · rename_i e; subst e
              constructor
              · intro h; exact (hnm (by have : y = m := by omega
                                        rw [← this]; exact hy)).elim
              · intro h; exact (hcv (by have : v = y := by omega
                                        rw [this]; exact hy)).elim
            · exact hst j y hy
        · have h3' : R.1 = false := by cases h : R.1 <;> simp_all
          rw [if_neg h3]
          have hus := hk.fail h3'
          rw [hus]
          have hi := ih (u + 1) us R.2.2 hr' hv
          have hmm : ∀ j, sG se j = true → sG R.2.2 j = true := fun j hj => hk.mono j (hmono1 j hj)
          exact ⟨hi.fail, hi.ulen, hi.slen.trans (by have := hk.slen; simpa using this), fun j hj => hi.mono j (hmm j hj), fun j hj => hi.keep j (hmm j hj), hi.bar, hi.val, hi.cnt, hi.stay⟩
theorem place_ok {may : List (List Bool)} {nm : Nat} : ∀ (f m : Nat) (us : List Int) (se : List Bool), m < nm → Val may nm us → PlOk may nm m us se (placeF may f m us se).1 (placeF may f m us se).2.1 (placeF may f m us se).2.2 := by
  intro f
  induction f with
  | zero => intro m us se _ hv; exact PlOk.none hv
  | succ f ih =>
    intro m us se hm hv
    exact row_ok (placeF may f) hm ih (rG may m) 0 us se (fun j => by rw [Nat.zero_add]) hv
theorem count_le {se se' : List Bool} (hl : se'.length = se.length) (hm : ∀ u, sG se u = true → sG se' u = true) : se'.count false ≤ se.count false := by
  induction se generalizing se' with
  | nil => cases se' with
    | nil => exact Nat.le_refl _
    | cons _ _ => simp at hl
  | cons a se ih =>
    cases se' with
    | nil => simp at hl
    | cons b se' =>
      have h1 := ih (se' := se') (by simpa using hl) (fun u hu => by have := hm (u + 1) (by simpa [sG] using hu); simpa [sG] using this)
      have h2 := hm 0
      simp only [sG, List.getElem?_cons_zero, Option.getD_some] at h2
      simp only [List.count_cons]
      cases a <;> cases b <;> simp at h2 ⊢ <;> omega
theorem count_one {se : List Bool} {u : Nat} (h : sG se u = false) : (se.set u true).count false + 1 = se.count false := by
  have hl := sG_lt h
  have h1 : se[u]? = some false := by rw [← h]; unfold sG; rw [List.getElem?_eq_getElem hl]; rfl
  have := count_set' se u true false false h1
  simpa using this
structure PlFail (may : List (List Bool)) (m : Nat) (us : List Int) (se se' : List Bool) : Prop where
  row : ∀ u, bG (rG may m) u = true → uG us u ≠ -2 → sG se' u = true
  new : ∀ u, sG se' u = true → sG se u = false → ∃ y : Nat, uG us u = (y : Int) ∧ ∀ w, bG (rG may y) w = true → uG us w ≠ -2 → sG se' w = true
theorem row_fail {may : List (List Bool)} {nm m f : Nat} (rec : Nat → List Int → List Bool → Bool × List Int × List Bool) (hm : m < nm)
    (hok : ∀ x us se, x < nm → Val may nm us → PlOk may nm x us se (rec x us se).1 (rec x us se).2.1 (rec x us se).2.2)
    (hrec : ∀ x us se, x < nm → Val may nm us → se.count false < f → (rec x us se).1 = false → PlFail may x us se (rec x us se).2.2) :
    ∀ (r : List Bool) (u : Nat) (us : List Int) (se : List Bool), Val may nm us → se.count false < f + 1 → (rowF rec m r u us se).1 = false →
      (∀ j, sG se j = true → sG (rowF rec m r u us se).2.2 j = true) ∧ (∀ j, bG r j = true → uG us (u + j) ≠ -2 → sG (rowF rec m r u us se).2.2 (u + j) = true) ∧
      ∀ j, sG (rowF rec m r u us se).2.2 j = true → sG se j = false → ∃ y : Nat, uG us j = (y : Int) ∧ ∀ w, bG (rG may y) w = true → uG us w ≠ -2 → sG (rowF rec m r u us se).2.2 w = true := by
  intro r
  induction r with
  | nil => intro u us se _ _ _; exact ⟨fun _ h => h, (fun j hj => by simp [bG] at hj), fun j h1 h2 => by rw [show (rowF rec m [] u us se).2.2 = se from rfl, h2] at h1; cases h1⟩
  | cons b r ih =>
    intro u us se hv hc hf
    have shift : ∀ {P : Nat → Prop}, P u → (∀ j, P (u + 1 + j)) → ∀ j, P (u + j) := fun {P} h0 h1 j => by
      cases j with
      | zero => exact h0
      | succ j => have := h1 j; rwa [show u + 1 + j = u + (j + 1) by omega] at this
    unfold rowF at hf ⊢
    by_cases h1 : b = false ∨ sG se u = true ∨ uG us u = -2
    · rw [if_pos h1] at hf ⊢
      obtain ⟨a0, a1, a2⟩ := ih (u + 1) us se hv hc hf
      refine ⟨a0, fun j hj hne => ?_, a2⟩
      cases j with
      | zero =>
        rcases h1 with h | h | h
        · subst h; simp [bG] at hj
        · exact a0 u h
        · exact (hne h).elim
      | succ j =>
        have := a1 j (by simpa [bG] using hj) (by rwa [show u + 1 + j = u + (j + 1) by omega])
        rwa [show u + 1 + j = u + (j + 1) by omega] at this
    · rw [if_neg h1] at hf ⊢
      have hs : sG se u = false := by cases h : sG se u <;> simp_all
      have hu : uG us u ≠ -2 := fun e => h1 (Or.inr (Or.inr e))
      have hsl := sG_lt hs
      by_cases h2 : uG us u = -1
      · rw [if_pos h2] at hf; cases hf
      · rw [if_neg h2] at hf ⊢
        obtain ⟨v, hvn, hve, hvm⟩ : ∃ x : Nat, x < nm ∧ uG us u = (x : Int) ∧ bG (rG may x) u = true := by
          rcases hv u with h | h | h
          · exact (hu h).elim
          · exact (h2 h).elim
          · exact h
        rw [hve, show ((v : Int)).toNat = v by omega] at hf ⊢
        have hk := hok v us (se.set u true) hvn hv
        have hl := hrec v us (se.set u true) hvn hv (by have := count_one hs; omega)
        obtain ⟨R, hR⟩ : ∃ R, rec v us (se.set u true) = R := ⟨_, rfl⟩
        rw [hR] at hk hl hf ⊢
        have hs1 : sG (se.set u true) u = true := by rw [sG_set hsl, if_pos rfl]
        have hmono1 : ∀ j, sG se j = true → sG (se.set u true) j = true := fun j hj => by rw [sG_set hsl]; split <;> simp_all
        by_cases h3 : R.1 = true
        · rw [if_pos h3] at hf; cases hf
        · have h3' : R.1 = false := by cases h : R.1 <;> simp_all
          rw [if_neg h3] at hf ⊢
          have hus := hk.fail h3'
          rw [hus] at hf ⊢
          have hl := hl h3'
          have hcl := count_le hk.slen hk.mono
          have hco := count_one hs
          obtain ⟨a0, a1, a2⟩ := ih (u + 1) us R.2.2 hv (by omega) hf
          refine ⟨fun j hj => a0 j (hk.mono j (hmono1 j hj)), fun j hj hne => ?_, fun j hj hj0 => ?_⟩
          · cases j with
            | zero => exact a0 u (hk.mono u hs1)
            | succ j =>
              have := a1 j (by simpa [bG] using hj) (by rwa [show u + 1 + j = u + (j + 1) by omega])
              rwa [show u + 1 + j = u + (j + 1) by omega] at this
          · cases h4 : sG R.2.2 j with
            | false => exact a2 j hj h4
            | true =>
              by_cases e : j = u
              · subst e
                exact ⟨v, hve, fun w hw1 hw2 => a0 w (hl.row w hw1 hw2)⟩
              · obtain ⟨y, hy, hyc⟩ := hl.new j h4 (by rw [sG_set hsl, if_neg e]; exact hj0)
                exact ⟨y, hy, fun w hw1 hw2 => a0 w (hyc w hw1 hw2)⟩
theorem place_fail {may : List (List Bool)} {nm : Nat} : ∀ (f m : Nat) (us : List Int) (se : List Bool), m < nm → Val may nm us → se.count false < f → (placeF may f m us se).1 = false → PlFail may m us se (placeF may f m us se).2.2 := by
  intro f
  induction f with
  | zero => intro m us se _ _ h; omega
  | succ f ih =>
    intro m us se hm hv hc hf
    obtain ⟨_, a1, a2⟩ := row_fail (placeF may f) hm (fun x us se hx hv => place_ok f x us se hx hv) ih (rG may m) 0 us se hv hc hf
    exact ⟨fun u h1 h2 => by have := a1 u h1 (by rwa [Nat.zero_add]); rwa [Nat.zero_add] at this, a2⟩
/-- A failure from nobody seen: a set of matches that has no more umpires. -/
theorem place_clo {may : List (List Bool)} {nm m n : Nat} {us : List Int} (hm : m < nm) (hv : Val may nm us) (hn : us.length ≤ n) (hf : (placeF may (n + 1) m us (List.replicate n false)).1 = false) :
    ∃ C : Nat → Prop, Clo may us C ∧ C m := by
  have h := place_fail (n + 1) m us (List.replicate n false) hm hv (by simp) hf
  obtain ⟨se', hse⟩ : ∃ s, (placeF may (n + 1) m us (List.replicate n false)).2.2 = s := ⟨_, rfl⟩
  rw [hse] at h
  have hz : ∀ u, uG us u ≠ -2 → sG (List.replicate n false) u = false := fun u hu => by
    have := uG_lt hu
    unfold sG
    rw [List.getElem?_replicate, if_pos (by omega)]
    rfl
  refine ⟨fun x => x = m ∨ ∃ u, uG us u = (x : Int) ∧ sG se' u = true, ?_, Or.inl rfl⟩
  intro x hx u hu hb
  have hsu : sG se' u = true := by
    rcases hx with rfl | ⟨u0, hu0, hs0⟩
    · exact h.row u hu hb
    · obtain ⟨y, hy, hyc⟩ := h.new u0 hs0 (hz u0 (by omega))
      have : y = x := by omega
      subst this
      exact hyc u hu hb
  obtain ⟨y, hy, _⟩ := h.new u hsu (hz u hb)
  exact ⟨y, hy, Or.inr ⟨u, hy, hsu⟩⟩
end Go.Proofs.Ytckbhdokfkabfaa
