/-
  Chapter 55, plain: the matches that can be reached from those that lack an umpire: the least set with the greatest deficiency.
-/
import Derived.Test.YtckbhdokfkabfaaApP2
set_option linter.unusedSimpArgs false
set_option linter.unusedVariables false
namespace Go.Proofs.Ytckbhdokfkabfaa
def stepF (us : List Int) : List Bool → Nat → List Bool → List Nat → List Bool × List Nat
  | [], _, inn, q => (inn, q)
  | b :: r, u, inn, q =>
    if b = true ∧ 0 ≤ uG us u ∧ bG inn (uG us u).toNat = false then stepF us r (u + 1) (inn.set (uG us u).toNat true) (q ++ [(uG us u).toNat])
    else stepF us r (u + 1) inn q
def bfsF (may : List (List Bool)) (us : List Int) : Nat → List Bool → List Nat → List Bool
  | 0, inn, _ => inn
  | _ + 1, inn, [] => inn
  | f + 1, inn, m :: q => bfsF may us f (stepF us (rG may m) 0 inn q).1 (stepF us (rG may m) 0 inn q).2
def innF (inn : List Bool) (lk : List Nat) : List Bool := lk.foldl (fun i m => i.set m true) inn
def lackF (may : List (List Bool)) (us : List Int) (nm : Nat) (lk : List Nat) : List Bool := bfsF may us (nm + lk.length + 1) (innF (List.replicate nm false) lk) lk
def Alt (may : List (List Bool)) (us : List Int) (S : Nat → Prop) : Prop := ∀ x, S x → ∀ u, bG (rG may x) u = true → ∀ y : Nat, uG us u = (y : Int) → S y
theorem bG_lt {r : List Bool} {u : Nat} (h : bG r u = true) : u < r.length := by
  apply Classical.byContradiction
  intro hn
  unfold bG at h
  rw [List.getElem?_eq_none (by omega)] at h
  cases h
theorem bG_set {r : List Bool} {u : Nat} (h : u < r.length) (v : Bool) (j : Nat) : bG (r.set u v) j = if j = u then v else bG r j := by
  unfold bG
  by_cases e : j = u
  · subst e; rw [if_pos rfl, List.getElem?_set_self h]; rfl
  · rw [if_neg e, List.getElem?_set_ne (fun x => e x.symm)]
theorem count_on {r : List Bool} {u : Nat} (hl : u < r.length) (h : bG r u = false) : (r.set u true).count false + 1 = r.count false := by
  have h1 : r[u]? = some false := by rw [← h]; unfold bG; rw [List.getElem?_eq_getElem hl]; rfl
  have := count_set' r u true false false h1
  simpa using this
structure StI (us : List Int) (nm : Nat) (r : List Bool) (u : Nat) (inn : List Bool) (q : List Nat) (inn' : List Bool) (q' : List Nat) : Prop where
  len : inn'.length = nm
  up : ∀ x, bG inn x = true → bG inn' x = true
  qup : ∀ x ∈ q, x ∈ q'
  new : ∀ x, bG inn' x = true → bG inn x = true ∨ (x ∈ q' ∧ ∃ j, bG r j = true ∧ uG us (u + j) = (x : Int))
  qin : ∀ x ∈ q', x ∈ q ∨ bG inn' x = true
  all : ∀ j, bG r j = true → ∀ y : Nat, uG us (u + j) = (y : Int) → bG inn' y = true
  meas : inn'.count false + q'.length = inn.count false + q.length
theorem step_inv {may : List (List Bool)} {us : List Int} {nm : Nat} (hv : Val may nm us) : ∀ (r : List Bool) (u : Nat) (inn : List Bool) (q : List Nat), inn.length = nm → StI us nm r u inn q (stepF us r u inn q).1 (stepF us r u inn q).2 := by
  intro r
  induction r with
  | nil => intro u inn q hl; exact ⟨hl, fun _ h => h, fun _ h => h, fun _ h => Or.inl h, fun _ h => Or.inl h, (fun j hj => by simp [bG] at hj), rfl⟩
  | cons b r ih =>
    intro u inn q hl
    unfold stepF
    have bsucc : ∀ j, bG (b :: r) (j + 1) = bG r j := fun j => by simp [bG]
    have bzero : bG (b :: r) 0 = b := by simp [bG]
    by_cases h1 : b = true ∧ 0 ≤ uG us u ∧ bG inn (uG us u).toNat = false
    · rw [if_pos h1]
      obtain ⟨hb, h0, hi⟩ := h1
      obtain ⟨v, hv1⟩ : ∃ v : Nat, uG us u = (v : Int) := ⟨(uG us u).toNat, by omega⟩
      have hvn : v < nm := by rcases hv u with e | e | ⟨z, hz, hze, _⟩ <;> omega
      rw [hv1, show ((v : Int)).toNat = v by omega] at hi ⊢
      have hvl : v < inn.length := by omega
      have k := ih (u + 1) (inn.set v true) (q ++ [v]) (by simpa using hl)
      have hup : ∀ x, bG inn x = true → bG (inn.set v true) x = true := fun x hx => by rw [bG_set hvl]; split <;> simp_all
      have hvv : bG (inn.set v true) v = true := by rw [bG_set hvl, if_pos rfl]
      refine ⟨k.len, fun x hx => k.up x (hup x hx), fun x hx => k.qup x (by simp [hx]), fun x hx => ?_, fun x hx => ?_, fun j hj y hy => ?_, ?_⟩
      · rcases k.new x hx with h | ⟨h, j, hj, he⟩
        · rw [bG_set hvl] at h
          by_cases e : x = v
          · subst e
            exact Or.inr ⟨k.qup x (by simp), 0, by rw [bzero, hb], by simpa using hv1⟩
          · rw [if_neg e] at h; exact Or.inl h
        · exact Or.inr ⟨h, j + 1, by rw [bsucc]; exact hj, by rw [← he]; congr 1; omega⟩
      · rcases k.qin x hx with h | h
        · rcases List.mem_append.1 h with h | h
          · exact Or.inl h
          · simp at h; subst h; exact Or.inr (k.up x hvv)
        · exact Or.inr h
      · cases j with
        | zero =>
          have : y = v := by simp at hy; omega
          subst this; exact k.up y hvv
        | succ j => exact k.all j (by rw [← bsucc]; exact hj) y (by rw [← hy]; congr 1; omega)
      · have := k.meas
        have h2 := count_on hvl hi
        simp at this
        omega
    · rw [if_neg h1]
      have k := ih (u + 1) inn q hl
      refine ⟨k.len, k.up, k.qup, fun x hx => ?_, k.qin, fun j hj y hy => ?_, k.meas⟩
      · rcases k.new x hx with h | ⟨h, j, hj, he⟩
        · exact Or.inl h
        · exact Or.inr ⟨h, j + 1, by rw [bsucc]; exact hj, by rw [← he]; congr 1; omega⟩
      · cases j with
        | zero =>
          simp at hy
          rw [bzero] at hj
          apply Classical.byContradiction
          intro hn
          refine h1 ⟨hj, by omega, ?_⟩
          rw [hy, show ((y : Int)).toNat = y by omega]
          cases h : bG inn y with
          | false => rfl
          | true => exact (hn (k.up y h)).elim
        | succ j => exact k.all j (by rw [← bsucc]; exact hj) y (by rw [← hy]; congr 1; omega)
structure BfInv (may : List (List Bool)) (us : List Int) (nm : Nat) (lk : List Nat) (inn : List Bool) (q : List Nat) : Prop where
  len : inn.length = nm
  has : ∀ x ∈ lk, bG inn x = true
  sub : ∀ x ∈ q, bG inn x = true
  min : ∀ S : Nat → Prop, (∀ x ∈ lk, S x) → Alt may us S → ∀ x, bG inn x = true → S x
  done : ∀ x, bG inn x = true → x ∈ q ∨ ∀ u, bG (rG may x) u = true → ∀ y : Nat, uG us u = (y : Int) → bG inn y = true
theorem bfs_inv {may : List (List Bool)} {us : List Int} {nm : Nat} {lk : List Nat} (hv : Val may nm us) : ∀ (f : Nat) (inn : List Bool) (q : List Nat), BfInv may us nm lk inn q → inn.count false + q.length < f → BfInv may us nm lk (bfsF may us f inn q) [] := by
  intro f
  induction f with
  | zero => intro inn q _ h; omega
  | succ f ih =>
    intro inn q h hf
    cases q with
    | nil => exact h
    | cons m q =>
      unfold bfsF
      have k := step_inv hv (rG may m) 0 inn q h.len
      have hm := h.sub m (by simp)
      refine ih _ _ ⟨k.len, fun x hx => k.up x (h.has x hx), fun x hx => ?_, fun S hS hA x hx => ?_, fun x hx => ?_⟩ (by have := k.meas; simp at hf; omega)
      · rcases k.qin x hx with e | e
        · exact k.up x (h.sub x (by simp [e]))
        · exact e
      · rcases k.new x hx with e | ⟨_, j, hj, he⟩
        · exact h.min S hS hA x e
        · exact hA m (h.min S hS hA m hm) j hj x (by simpa using he)
      · rcases k.new x hx with e | ⟨e, _⟩
        · rcases h.done x e with e2 | e2
          · rcases List.mem_cons.1 e2 with e3 | e3
            · subst e3
              exact Or.inr fun u hu y hy => k.all u hu y (by simpa using hy)
            · exact Or.inl (k.qup x e3)
          · exact Or.inr fun u hu y hy => k.up y (e2 u hu y hy)
        · exact Or.inl e
theorem innF_ok (lk : List Nat) : ∀ (inn : List Bool), (∀ x ∈ lk, x < inn.length) → (innF inn lk).length = inn.length ∧ ∀ x, bG (innF inn lk) x = true ↔ (x ∈ lk ∨ bG inn x = true) := by
  induction lk with
  | nil => intro inn _; exact ⟨rfl, fun x => by simp [innF]⟩
  | cons a lk ih =>
    intro inn h
    obtain ⟨h1, h2⟩ := ih (inn.set a true) (fun x hx => by simpa using h x (by simp [hx]))
    refine ⟨by rw [show innF inn (a :: lk) = innF (inn.set a true) lk from rfl, h1]; simp, fun x => ?_⟩
    rw [show innF inn (a :: lk) = innF (inn.set a true) lk from rfl, h2, bG_set (h a (by simp))]
    by_cases e : x = a
    · subst e; simp
    · rw [if_neg e]; simp [e]
theorem lack_inv {may : List (List Bool)} {us : List Int} {nm : Nat} {lk : List Nat} (hv : Val may nm us) (hlk : ∀ x ∈ lk, x < nm) : BfInv may us nm lk (lackF may us nm lk) [] := by
  obtain ⟨h1, h2⟩ := innF_ok lk (List.replicate nm false) (by simpa using hlk)
  have hz : ∀ x, bG (List.replicate nm false) x = false := fun x => by
    unfold bG; rw [List.getElem?_replicate]; split <;> rfl
  have h3 : ∀ x, bG (innF (List.replicate nm false) lk) x = true ↔ x ∈ lk := fun x => by rw [h2 x, hz x]; simp
  refine bfs_inv hv _ _ _ ⟨by simpa using h1, fun x hx => (h3 x).2 hx, fun x hx => (h3 x).2 hx, fun S hS _ x hx => hS x ((h3 x).1 hx), fun x hx => Or.inl ((h3 x).1 hx)⟩ ?_
  have : (innF (List.replicate nm false) lk).count false ≤ nm := by
    have := List.count_le_length (a := false) (l := innF (List.replicate nm false) lk)
    rw [h1] at this; simpa using this
  omega
/-- How many may stand in one of the matches. -/
def ableN (may : List (List Bool)) (nu : Nat) (A : List Nat) : Nat := (List.range nu).countP fun u => A.any fun x => bG (rG may x) u
theorem map_uG (us : List Int) : (List.range us.length).map (uG us) = us := by
  apply List.ext_getElem?
  intro i
  rw [List.getElem?_map]
  by_cases h : i < us.length
  · rw [List.getElem?_range h, List.getElem?_eq_getElem h]; simp [uG, h]
  · rw [List.getElem?_eq_none (by simp; omega), List.getElem?_eq_none (by omega)]; rfl
theorem countP_range (us : List Int) (p : Int → Bool) : us.countP p = (List.range us.length).countP fun u => p (uG us u) := by
  conv => lhs; rw [← map_uG us]
  rw [List.countP_map]; rfl
theorem countP_mono' {α : Type} (l : List α) (p q : α → Bool) (h : ∀ x ∈ l, p x = true → q x = true) : l.countP p ≤ l.countP q ∧ (l.countP p = l.countP q → ∀ x ∈ l, q x = true → p x = true) := by
  induction l with
  | nil => exact ⟨Nat.le_refl _, fun _ x hx => by simp at hx⟩
  | cons a l ih =>
    obtain ⟨h1, h2⟩ := ih (fun x hx => h x (by simp [hx]))
    have h3 := h a (by simp)
    simp only [List.countP_cons]
    cases hp : p a <;> cases hq : q a
    · simp only [hp, hq] at h3 ⊢
      refine ⟨by simpa using h1, fun e x hx hqx => ?_⟩
      rcases List.mem_cons.1 hx with e1 | e1
      · subst e1; rw [hq] at hqx; cases hqx
      · exact h2 (by simpa using e) x e1 hqx
    · refine ⟨by simp; omega, fun e => by simp at e; omega⟩
    · exact absurd (h3 hp) (by rw [hq]; simp)
    · refine ⟨by simpa using h1, fun e x hx hqx => ?_⟩
      rcases List.mem_cons.1 hx with e1 | e1
      · subst e1; exact hp
      · exact h2 (by simpa using e) x e1 hqx
theorem sum_filter (l : List Nat) (p : Nat → Bool) (f : Nat → Nat) : ((l.filter p).map f).sum = (l.map fun x => if p x = true then f x else 0).sum := by
  induction l with
  | nil => rfl
  | cons a l ih =>
    by_cases h : p a = true
    · rw [List.filter_cons_of_pos h]; simp [ih, h]
    · rw [List.filter_cons_of_neg h]; simp [ih, h]
theorem sum_eq_imp {α : Type} (l : List α) (f g : α → Nat) (h : ∀ x ∈ l, f x ≤ g x) (he : (l.map f).sum = (l.map g).sum) : ∀ x ∈ l, f x = g x := by
  intro x hx
  apply Classical.byContradiction
  intro hn
  have := sum_lt l f g h hx (by have := h x hx; omega)
  omega
theorem sum_const (l : List Nat) (c : Nat) : (l.map fun _ => c).sum = c * l.length := by
  induction l with
  | nil => rfl
  | cons a l ih => simp only [List.map_cons, List.sum_cons, ih, List.length_cons, Nat.mul_add]; omega
theorem sum_add {α : Type} (l : List α) (f g : α → Nat) : (l.map fun x => f x + g x).sum = (l.map f).sum + (l.map g).sum := by
  induction l with
  | nil => rfl
  | cons a l ih => simp only [List.map_cons, List.sum_cons, ih]; omega
/-- Nobody is barred and nobody stands: the first filling of a day. -/
def Clear (us : List Int) : Prop := ∀ u, u < us.length → uG us u = -1
theorem Clear.fresh {us : List Int} (h : Clear us) : Fresh us := fun u => by
  by_cases e : u < us.length
  · exact Or.inr (h u e)
  · refine Or.inl ?_
    unfold uG; rw [List.getElem?_eq_none (by omega)]; rfl
structure Def (may : List (List Bool)) (nm nu : Nat) (R : Nat → Bool) : Prop where
  pos : ableN may nu ((List.range nm).filter R) < 2 * ((List.range nm).filter R).length
  max : ∀ p : Nat → Bool, 2 * ((List.range nm).filter p).length + ableN may nu ((List.range nm).filter R) ≤ 2 * ((List.range nm).filter R).length + ableN may nu ((List.range nm).filter p)
  min : ∀ p : Nat → Bool, 2 * ((List.range nm).filter p).length + ableN may nu ((List.range nm).filter R) = 2 * ((List.range nm).filter R).length + ableN may nu ((List.range nm).filter p) → ∀ x, x < nm → R x = true → p x = true
theorem lack_def {may : List (List Bool)} {nm n : Nat} {us0 : List Int} (hn : us0.length ≤ n) (h : Clear us0) (hrow : ∀ x u, bG (rG may x) u = true → u < us0.length) (hlk : (fillF may n (List.replicate nm 2) 0 us0 []).1 ≠ []) :
    Def may nm us0.length (fun x => bG (lackF may (fillF may n (List.replicate nm 2) 0 us0 []).2 nm (fillF may n (List.replicate nm 2) 0 us0 []).1) x) := by
  have hi := fill_inv (may := may) (need := List.replicate nm 2) (nm := nm) hn (by simp) h.fresh
  obtain ⟨lk, hl⟩ : ∃ y, (fillF may n (List.replicate nm 2) 0 us0 []).1 = y := ⟨_, rfl⟩
  obtain ⟨us, hus⟩ : ∃ y, (fillF may n (List.replicate nm 2) 0 us0 []).2 = y := ⟨_, rfl⟩
  rw [hl, hus] at hi
  rw [hl] at hlk ⊢
  rw [hus]
  have hb := lack_inv hi.ok.val (fun x hx => (hi.part x hx).1)
  obtain ⟨inn, hinn⟩ : ∃ y, lackF may us nm lk = y := ⟨_, rfl⟩
  rw [hinn] at hb ⊢
  have h2 : ∀ x, x < nm → (List.replicate nm 2)[x]?.getD 0 = 2 := fun x hx => by rw [List.getElem?_replicate, if_pos hx]; rfl
  have hc2 : ∀ x, x < nm → cntU us x ≤ 2 := fun x hx => by
    by_cases e : x ∈ lk
    · have := (hi.part x e).2.1; rw [h2 x hx] at this; omega
    · rw [hi.full x hx e, h2 x hx]; exact Nat.le_refl _
  have hlt2 : ∀ x, x ∈ lk → cntU us x < 2 := fun x hx => by have := (hi.part x hx).2.1; rwa [h2 x (hi.part x hx).1] at this
  have hlen := hi.ok.ulen
  have halt : Alt may us (fun x => bG inn x = true) := fun x hx u hu y hy => by
    rcases hb.done x hx with e | e
    · simp at e
    · exact e u hu y hy
  -- whoever may stand in a match of R stands in one
  have hclo : ∀ x, bG inn x = true → ∀ u, bG (rG may x) u = true → ∃ y : Nat, uG us u = (y : Int) ∧ bG inn y = true ∧ y < nm := by
    intro x hx u hu
    have hS := hb.min (fun z => ∃ C, Clo may us C ∧ C z) (fun z hz => by obtain ⟨C, c1, c2⟩ := (hi.part z hz).2.2; exact ⟨C, c1, c2⟩)
      (fun z hz u hu y hy => by
        obtain ⟨C, c1, c2⟩ := hz
        obtain ⟨y', e, c⟩ := c1 z c2 u hu (by omega)
        have : y' = y := by omega
        subst this
        exact ⟨C, c1, c⟩) x hx
    obtain ⟨C, c1, c2⟩ := hS
    have hul := hrow x u hu
    have hnb : uG us u ≠ -2 := fun e => by have := (hi.ok.bar u).1 e; rw [h u hul] at this; cases this
    obtain ⟨y, e, c⟩ := c1 x c2 u hu hnb
    have hyn : y < nm := by rcases hi.ok.val u with e | e | ⟨z, hz, hze, _⟩ <;> omega
    exact ⟨y, e, halt x hx u hu y e, hyn⟩
  have hmay : ∀ u x, uG us u = ((x : Nat) : Int) → bG (rG may x) u = true := fun u x hx => by
    rcases hi.ok.val u with e | e | ⟨z, hz, hze, hm⟩
    · omega
    · omega
    · have : z = x := by omega
      subst this; exact hm
  let F := fun p : Nat → Bool => (List.range nm).filter p
  have hmem : ∀ (p : Nat → Bool) x, x ∈ F p ↔ x < nm ∧ p x = true := fun p x => by simp [F]
  have hsum : ∀ p : Nat → Bool, ((F p).map (cntU us)).sum = (List.range us0.length).countP fun u => decide (∃ x ∈ F p, uG us u = (x : Int)) := fun p => by
    rw [cnt_sum (F p) (List.Pairwise.filter _ List.nodup_range) us, countP_range, hlen]
  have hable : ∀ p : Nat → Bool, ((F p).map (cntU us)).sum ≤ ableN may us0.length (F p) ∧ (((F p).map (cntU us)).sum = ableN may us0.length (F p) → ∀ u, u < us0.length → (∃ x ∈ F p, bG (rG may x) u = true) → ∃ x ∈ F p, uG us u = ((x : Nat) : Int)) := fun p => by
    rw [hsum p]
    obtain ⟨k1, k2⟩ := countP_mono' (List.range us0.length) (fun u => decide (∃ x ∈ F p, uG us u = (x : Int))) (fun u => (F p).any fun x => bG (rG may x) u) (fun u _ hp => by
      rw [decide_eq_true_eq] at hp
      obtain ⟨x, hx, he⟩ := hp
      exact List.any_eq_true.2 ⟨x, hx, hmay u x he⟩)
    refine ⟨k1, fun e u hu hx => ?_⟩
    have := k2 e u (by simpa using hu) (List.any_eq_true.2 hx)
    rwa [decide_eq_true_eq] at this
  have hR : ableN may us0.length (F fun x => bG inn x) = ((F fun x => bG inn x).map (cntU us)).sum := by
    rw [hsum]
    unfold ableN
    refine List.countP_congr (fun u _ => ?_)
    rw [decide_eq_true_eq, List.any_eq_true]
    constructor
    · rintro ⟨x, hx, hu⟩
      obtain ⟨y, e, hy, hyn⟩ := hclo x ((hmem _ x).1 hx).2 u hu
      exact ⟨y, (hmem _ y).2 ⟨hyn, hy⟩, e⟩
    · rintro ⟨x, hx, he⟩
      exact ⟨x, hx, hmay u x he⟩
  let d := fun x => 2 - cntU us x
  have hdp : ∀ p : Nat → Bool, 2 * (F p).length = ((F p).map (cntU us)).sum + ((F p).map d).sum := fun p => by
    rw [← sum_const, ← sum_add]
    congr 1
    refine List.map_congr_left (fun x hx => ?_)
    have := hc2 x ((hmem p x).1 hx).1
    show 2 = cntU us x + (2 - cntU us x)
    omega
  have hd0 : ∀ x, x < nm → x ∉ lk → d x = 0 := fun x hx hn => by
    show 2 - cntU us x = 0
    rw [hi.full x hx hn, h2 x hx]
  have hdle : ∀ p : Nat → Bool, ((F p).map d).sum ≤ ((List.range nm).map d).sum := fun p => by
    rw [sum_filter]
    exact sum_le _ _ _ (fun x _ => by split <;> omega)
  have hdR : ((F fun x => bG inn x).map d).sum = ((List.range nm).map d).sum := by
    rw [sum_filter]
    congr 1
    refine List.map_congr_left (fun x hx => ?_)
    simp at hx
    by_cases e : x ∈ lk
    · rw [if_pos (hb.has x e)]
    · rw [hd0 x hx e]; split <;> rfl
  have hTpos : 0 < ((List.range nm).map d).sum := by
    obtain ⟨x0, hx0⟩ := List.exists_mem_of_ne_nil lk hlk
    have h4 := sum_lt (List.range nm) (fun _ => 0) d (fun _ _ => Nat.zero_le _) (y := x0) (by simp; exact (hi.part x0 hx0).1) (by show 0 < 2 - cntU us x0; have := hlt2 x0 hx0; omega)
    omega
  refine ⟨?_, fun p => ?_, fun p he => ?_⟩
  · show ableN may us0.length (F fun x => bG inn x) < 2 * (F fun x => bG inn x).length
    rw [hdp, hR, hdR]; omega
  · show 2 * (F p).length + ableN may us0.length (F fun x => bG inn x) ≤ 2 * (F fun x => bG inn x).length + ableN may us0.length (F p)
    rw [hdp p, hdp (fun x => bG inn x), hR, hdR]
    have h5 := (hable p).1
    have h6 := hdle p
    omega
  · have he : 2 * (F p).length + ableN may us0.length (F fun x => bG inn x) = 2 * (F fun x => bG inn x).length + ableN may us0.length (F p) := he
    rw [hdp p, hdp (fun x => bG inn x), hR, hdR] at he
    obtain ⟨h5, h7⟩ := hable p
    have h6 := hdle p
    have e1 : ((F p).map (cntU us)).sum = ableN may us0.length (F p) := by omega
    have e2 : ((F p).map d).sum = ((List.range nm).map d).sum := by omega
    rw [sum_filter] at e2
    have e3 := sum_eq_imp _ _ _ (fun x _ => by show (if p x = true then d x else 0) ≤ d x; split <;> omega) e2
    intro x hx hRx
    refine (hb.min (fun z => z < nm ∧ p z = true) (fun z hz => ?_) (fun z hz u hu y hy => ?_) x hRx).2
    · have hzn := (hi.part z hz).1
      refine ⟨hzn, ?_⟩
      have := e3 z (by simpa using hzn)
      have hz2 := hlt2 z hz
      cases hp : p z with
      | true => rfl
      | false =>
        rw [hp] at this
        have : 0 = 2 - cntU us z := by simpa using this
        omega
    · obtain ⟨x', hx', he'⟩ := h7 e1 u (hrow z u hu) ⟨z, (hmem p z).2 hz, hu⟩
      have : x' = y := by omega
      subst this
      exact (hmem p x').1 hx'
end Go.Proofs.Ytckbhdokfkabfaa
