/-
  Chapter 47 in plain Lean: what the functions compute.
-/
import Derived.Test.YtkmkdknjpnkkpaaGreatDoorBase
set_option linter.unusedSimpArgs false
set_option linter.unusedVariables false
namespace Go.Proofs.YtkmkdknjpnkkpaaGreatDoor
open Go.RowKit

/-- An outcome: runs, wicket, weight. -/
structure Oc where
  r : Int
  k : Bool
  w : Int
  deriving DecidableEq, Inhabited
def ocE (z : Oc) : List Value := [.int .i64 z.r, .bool z.k, .int .i64 z.w]
theorem ocE_len (z : Oc) : (ocE z).length = 3 := rfl
def inE (x : Int) : List Value := [.int .i64 x]
theorem inE_len (x : Int) : (inE x).length = 1 := rfl
theorem oc_cells {w : World} {b off k : Nat} {z : Oc} (h : ∀ j u, (ocE z)[j]? = some u → w.cell? ⟨b, off + k * 3 + j, none⟩ = some u) : w.cell? ⟨b, off + k * 3, none⟩ = some (.int .i64 z.r) ∧ w.cell? ⟨b, off + k * 3 + 1, none⟩ = some (.bool z.k) ∧ w.cell? ⟨b, off + k * 3 + 2, none⟩ = some (.int .i64 z.w) :=
  ⟨h 0 _ rfl, h 1 _ rfl, h 2 _ rfl⟩
theorem in_cell {w : World} {b off k : Nat} {x : Int} (h : ∀ j u, (inE x)[j]? = some u → w.cell? ⟨b, off + k * 1 + j, none⟩ = some u) : w.cell? ⟨b, off + k, none⟩ = some (.int .i64 x) := by
  have := h 0 _ rfl
  simpa using this
/-- The slice at A reads as a list of lists. -/
def Rd2 (w : World) (B : Nat) (A : Option Addr) (l : List (List Int)) : Prop :=
  ∀ k x, l[k]? = some x → ∃ b off, A = some ⟨b, off, none⟩ ∧ b < B ∧ ∃ A' c', w.cell? ⟨b, off + k, none⟩ = some (.slice A' x.length c') ∧ Rd inE 1 w B A' x
theorem Rd2.below {w w' : World} {B : Nat} {A : Option Addr} {l : List (List Int)} (h : Rd2 w B A l) (hb : Below B w w') : Rd2 w' B A l := by
  intro k x hx
  obtain ⟨b, off, e, hlt, A', c', hc, hr⟩ := h k x hx
  exact ⟨b, off, e, hlt, A', c', (hb.cell (p := ⟨b, off + k, none⟩) hlt).trans hc, hr.below hb⟩
theorem Rd2.more {w : World} {B B' : Nat} {A : Option Addr} {l : List (List Int)} (h : Rd2 w B A l) (hB : B ≤ B') : Rd2 w B' A l := by
  intro k x hx
  obtain ⟨b, off, e, hlt, A', c', hc, hr⟩ := h k x hx
  exact ⟨b, off, e, by omega, A', c', hc, hr.more hB⟩
theorem Rd2.to {w w' : World} {A : Option Addr} {l : List (List Int)} (h : Rd2 w w.heap.size A l) (hb : Below w.heap.size w w') : Rd2 w' w'.heap.size A l := (h.below hb).more hb.size

/-! Distributions. -/
def before (a b : Oc) : Bool := decide (a.r < b.r) || (a.r == b.r && !a.k && b.k)
def badO (o : Oc) : Bool := decide (o.r < 0) || decide (7 < o.r) || decide (o.w < 1) || decide (16 < o.w)
def cErr : Option Oc → Int → List Oc → Int
  | _, s, [] => if s ≠ 16 then 12 else 0
  | p, s, o :: r => if badO o then 2 else if p.any (fun q => !before q o) then 8 else cErr (some o) (s + o.w) r
def chT (d : List Oc) : Int := if d.length = 0 then 6 else if 16 < d.length then 9 else cErr none 0 d

/-! The task. -/
structure Tk where
  ov : Int
  ld : Int
  sp : Int
  d : List Oc
  win : List (List Int)
def lErr : Option Int → List Int → Int
  | _, [] => 0
  | p, x :: r => if x < 0 ∨ 16 < x then 2 else if p.any (fun q => decide (x < q)) then 8 else lErr (some x) r
def wErr : List (List Int) → Int
  | [] => 0
  | l :: r => if l.length = 0 then 6 else if 100 < l.length then 9 else if lErr none l ≠ 0 then lErr none l else wErr r
def rngT (t : Tk) : Bool := decide (t.ov < 0) || decide (12 ≤ t.ov) || decide (t.ld < -600) || decide (600 < t.ld) || decide (t.sp < 1) || decide (600 < t.sp)
def ckT (t : Tk) : Int := if rngT t then 2 else if chT t.d ≠ 0 then chT t.d else if (t.win.length : Int) ≠ t.ov + 1 then 1 else wErr t.win
def ck3 (t : Tk) (lead m : Int) : Int := if ckT t ≠ 0 then ckT t else if m < 0 ∨ t.ov < m ∨ lead < -1200 ∨ 1200 < lead then 2 else 0

/-! The values. -/
def P16 : Nat → Int
  | 0 => 1
  | m + 1 => 16 * P16 m
def atW (t : Tk) (m : Nat) (lead : Int) : Int := (t.win.getD m []).getD (min (lead / t.sp) ((t.win.getD m []).length - 1)).toNat 0
def nowT (t : Tk) (lead : Int) (m : Nat) : Int := if lead < 0 then 0 else atW t m lead * P16 m
def onS (f : Int → Int) : List Oc → Int
  | [] => 0
  | o :: r => o.w * f o.r + onS f r
def valT (t : Tk) : Nat → Int → Int
  | 0, lead => nowT t lead 0
  | m + 1, lead => max (nowT t lead (m + 1)) (onS (fun r => valT t m (lead + r)) t.d)
def ruleT (t : Tk) (ls : List Int) : Nat → Int → Int
  | 0, lead => nowT t lead 0
  | m + 1, lead => if (ls.getD (m + 1) 0) ≤ lead then nowT t lead (m + 1) else onS (fun r => ruleT t ls m (lead + r)) t.d

/-! Facts of a distribution without an error. -/
theorem cErr_drop {d : List Oc} {k : Nat} {o : Oc} {p : Option Oc} {s : Int} (h : d[k]? = some o) : cErr p s (d.drop k) = if badO o then 2 else if p.any (fun q => !before q o) then 8 else cErr (some o) (s + o.w) (d.drop (k + 1)) := by
  obtain ⟨hk, rfl⟩ := List.getElem?_eq_some_iff.1 h
  rw [List.drop_eq_getElem_cons hk, cErr]
theorem cErr_end {d : List Oc} {k : Nat} {p : Option Oc} {s : Int} (h : d.length ≤ k) : cErr p s (d.drop k) = if s ≠ 16 then 12 else 0 := by
  rw [List.drop_of_length_le h, cErr]
def sumW : List Oc → Int
  | [] => 0
  | o :: r => o.w + sumW r
structure OkD (d : List Oc) : Prop where
  len : 1 ≤ d.length ∧ d.length ≤ 16
  each : ∀ o ∈ d, 0 ≤ o.r ∧ o.r ≤ 7 ∧ 1 ≤ o.w ∧ o.w ≤ 16
  sum : sumW d = 16
  asc : d.Pairwise fun a b => a.r ≤ b.r
theorem cErr_ok : ∀ (d : List Oc) (p : Option Oc) (s : Int), cErr p s d = 0 → (∀ o ∈ d, 0 ≤ o.r ∧ o.r ≤ 7 ∧ 1 ≤ o.w ∧ o.w ≤ 16) ∧ s + sumW d = 16 ∧ (d.Pairwise fun a b => a.r ≤ b.r) ∧ ∀ q, p = some q → ∀ o ∈ d, q.r ≤ o.r := by
  intro d
  induction d with
  | nil =>
    intro p s h
    rw [cErr] at h
    split at h
    · cases h
    · exact ⟨by simp, by simp [sumW]; omega, .nil, by simp⟩
  | cons o r ih =>
    intro p s h
    rw [cErr] at h
    split at h
    · cases h
    split at h
    · cases h
    rename_i h1 h2
    obtain ⟨a1, a2, a3, a4⟩ := ih _ _ h
    have hb : ∀ q, p = some q → q.r ≤ o.r := by
      intro q hq
      subst hq
      simp [before] at h2
      omega
    have ho : 0 ≤ o.r ∧ o.r ≤ 7 ∧ 1 ≤ o.w ∧ o.w ≤ 16 := by simp [badO] at h1; omega
    refine ⟨?_, by simp [sumW]; omega, List.pairwise_cons.2 ⟨fun x hx => a4 o rfl x hx, a3⟩, ?_⟩
    · intro x hx
      rcases List.mem_cons.1 hx with rfl | hx
      · exact ho
      · exact a1 x hx
    · intro q hq x hx
      have := hb q hq
      rcases List.mem_cons.1 hx with rfl | hx
      · exact this
      · have := a4 o rfl x hx; omega
theorem okD_of {d : List Oc} (h : chT d = 0) : OkD d := by
  unfold chT at h
  split at h
  · cases h
  split at h
  · cases h
  obtain ⟨a1, a2, a3, _⟩ := cErr_ok _ _ _ h
  exact ⟨by omega, a1, by omega, a3⟩
theorem OkD.last {d : List Oc} (h : OkD d) : ∃ z, d[d.length - 1]? = some z ∧ 0 ≤ z.r ∧ z.r ≤ 7 ∧ ∀ o ∈ d, o.r ≤ z.r := by
  have hl := h.len
  obtain ⟨z, hz⟩ : ∃ z, d[d.length - 1]? = some z := ⟨_, List.getElem?_eq_getElem (by omega)⟩
  refine ⟨z, hz, (h.each z (List.mem_of_getElem? hz)).1, (h.each z (List.mem_of_getElem? hz)).2.1, fun o ho => ?_⟩
  obtain ⟨i, hi, rfl⟩ := List.getElem_of_mem ho
  obtain ⟨hk, rfl⟩ := List.getElem?_eq_some_iff.1 hz
  rcases Nat.lt_or_ge i (d.length - 1) with hlt | hge
  · exact List.pairwise_iff_getElem.1 h.asc i (d.length - 1) hi hk hlt
  · have : i = d.length - 1 := by omega
    subst this
    exact Int.le_refl _
theorem sumW_le : ∀ {d : List Oc}, (∀ o ∈ d, 0 ≤ o.r ∧ o.r ≤ 7 ∧ 1 ≤ o.w ∧ o.w ≤ 16) → 0 ≤ sumW d := by
  intro d
  induction d with
  | nil => intro _; simp [sumW]
  | cons o r ih =>
    intro h
    have h1 := ih (fun x hx => h x (List.mem_cons_of_mem _ hx))
    have h2 := h o (List.mem_cons_self)
    simp [sumW]; omega
/-! Facts of the lists of chances. -/
theorem lErr_drop {l : List Int} {k : Nat} {x : Int} {p : Option Int} (h : l[k]? = some x) : lErr p (l.drop k) = if x < 0 ∨ 16 < x then 2 else if p.any (fun q => decide (x < q)) then 8 else lErr (some x) (l.drop (k + 1)) := by
  obtain ⟨hk, rfl⟩ := List.getElem?_eq_some_iff.1 h
  rw [List.drop_eq_getElem_cons hk, lErr]
theorem lErr_end {l : List Int} {k : Nat} {p : Option Int} (h : l.length ≤ k) : lErr p (l.drop k) = 0 := by
  rw [List.drop_of_length_le h, lErr]
theorem wErr_drop {l : List (List Int)} {k : Nat} {x : List Int} (h : l[k]? = some x) : wErr (l.drop k) = if x.length = 0 then 6 else if 100 < x.length then 9 else if lErr none x ≠ 0 then lErr none x else wErr (l.drop (k + 1)) := by
  obtain ⟨hk, rfl⟩ := List.getElem?_eq_some_iff.1 h
  rw [List.drop_eq_getElem_cons hk, wErr]
theorem wErr_end {l : List (List Int)} {k : Nat} (h : l.length ≤ k) : wErr (l.drop k) = 0 := by
  rw [List.drop_of_length_le h, wErr]
theorem lErr_ok : ∀ (l : List Int) (p : Option Int), lErr p l = 0 → (∀ x ∈ l, 0 ≤ x ∧ x ≤ 16) ∧ l.Pairwise (fun a b => a ≤ b) ∧ ∀ q, p = some q → ∀ x ∈ l, q ≤ x := by
  intro l
  induction l with
  | nil => intro p _; exact ⟨by simp, .nil, by simp⟩
  | cons x r ih =>
    intro p h
    rw [lErr] at h
    split at h
    · cases h
    split at h
    · cases h
    rename_i h1 h2
    obtain ⟨a1, a2, a3⟩ := ih _ h
    have hb : ∀ q, p = some q → q ≤ x := by
      intro q hq
      subst hq
      simp at h2
      omega
    refine ⟨?_, List.pairwise_cons.2 ⟨fun y hy => a3 x rfl y hy, a2⟩, ?_⟩
    · intro y hy
      rcases List.mem_cons.1 hy with rfl | hy
      · omega
      · exact a1 y hy
    · intro q hq y hy
      have := hb q hq
      rcases List.mem_cons.1 hy with rfl | hy
      · exact this
      · have := a3 x rfl y hy; omega
theorem wErr_ok : ∀ (l : List (List Int)), wErr l = 0 → ∀ x ∈ l, 1 ≤ x.length ∧ x.length ≤ 100 ∧ (∀ y ∈ x, 0 ≤ y ∧ y ≤ 16) ∧ x.Pairwise (fun a b => a ≤ b) := by
  intro l
  induction l with
  | nil => intro _ x hx; cases hx
  | cons y r ih =>
    intro h x hx
    rw [wErr] at h
    split at h
    · cases h
    split at h
    · cases h
    split at h
    · contradiction
    rename_i h1 h2 h3
    rcases List.mem_cons.1 hx with rfl | hx
    · have h4 := lErr_ok x none (by simpa using h3)
      exact ⟨by omega, by omega, h4.1, h4.2.1⟩
    · exact ih h x hx
structure OkT (t : Tk) : Prop where
  ov : 0 ≤ t.ov ∧ t.ov ≤ 11
  ld : -600 ≤ t.ld ∧ t.ld ≤ 600
  sp : 1 ≤ t.sp ∧ t.sp ≤ 600
  d : OkD t.d
  wl : (t.win.length : Int) = t.ov + 1
  win : ∀ x ∈ t.win, 1 ≤ x.length ∧ x.length ≤ 100 ∧ (∀ y ∈ x, 0 ≤ y ∧ y ≤ 16) ∧ x.Pairwise (fun a b => a ≤ b)
theorem okT_of {t : Tk} (h : ckT t = 0) : OkT t := by
  unfold ckT at h
  split at h
  · cases h
  split at h
  · contradiction
  split at h
  · cases h
  rename_i h1 h2 h3
  simp [rngT] at h1
  exact ⟨by omega, by omega, by omega, okD_of (by simpa using h2), by omega, wErr_ok _ h⟩
theorem OkT.at_ {t : Tk} (h : OkT t) {m : Nat} (hm : (m : Int) ≤ t.ov) : ∃ l, t.win[m]? = some l ∧ 1 ≤ l.length ∧ l.length ≤ 100 ∧ (∀ y ∈ l, 0 ≤ y ∧ y ≤ 16) ∧ l.Pairwise (fun a b => a ≤ b) := by
  have hl := h.wl
  obtain ⟨l, hl⟩ : ∃ l, t.win[m]? = some l := ⟨_, List.getElem?_eq_getElem (by omega)⟩
  exact ⟨l, hl, h.win l (List.mem_of_getElem? hl)⟩
theorem OkT.elem {t : Tk} (h : OkT t) {m : Nat} (hm : (m : Int) ≤ t.ov) {lead : Int} (hl : 0 ≤ lead) : ∃ l : List Int, ∃ i : Nat, t.win[m]? = some l ∧ 1 ≤ l.length ∧ l.length ≤ 100 ∧ (i : Int) = min (lead / t.sp) (l.length - 1) ∧ i < l.length ∧ l[i]? = some (atW t m lead) ∧ 0 ≤ atW t m lead ∧ atW t m lead ≤ 16 := by
  obtain ⟨l, h1, h2, h3, h4, _⟩ := h.at_ hm
  have hsp := h.sp
  have hdiv : 0 ≤ lead / t.sp := Int.ediv_nonneg hl (by omega)
  obtain ⟨i, hi⟩ : ∃ i : Nat, (i : Int) = min (lead / t.sp) (l.length - 1) := ⟨(min (lead / t.sp) (l.length - 1)).toNat, by omega⟩
  have hil : i < l.length := by omega
  have he : atW t m lead = l[i] := by
    have hw : t.win.getD m [] = l := by rw [List.getD_eq_getElem?_getD, h1]; rfl
    unfold atW
    rw [hw, ← hi, Int.toNat_natCast, List.getD_eq_getElem?_getD, List.getElem?_eq_getElem hil]; rfl
  have hm := h4 l[i] (List.getElem_mem hil)
  exact ⟨l, i, h1, h2, h3, hi, hil, by rw [List.getElem?_eq_getElem hil, he], by rw [he]; exact hm.1, by rw [he]; exact hm.2⟩
theorem P16_pos (m : Nat) : 1 ≤ P16 m := by
  induction m with
  | zero => exact Int.le_refl _
  | succ m ih => rw [P16]; omega
theorem P16_le {m n : Nat} (h : m ≤ n) : P16 m ≤ P16 n := by
  induction n with
  | zero => obtain rfl : m = 0 := by omega
            exact Int.le_refl _
  | succ n ih =>
    rcases Nat.lt_or_ge n m with h1 | h1
    · obtain rfl : m = n + 1 := by omega
      exact Int.le_refl _
    · have := ih h1
      have := P16_pos n
      rw [P16]; omega
theorem P16_12 : P16 12 = 281474976710656 := by decide
theorem OkT.now {t : Tk} (h : OkT t) {m : Nat} (hm : (m : Int) ≤ t.ov) (lead : Int) : 0 ≤ nowT t lead m ∧ nowT t lead m ≤ P16 (m + 1) := by
  unfold nowT
  have hp := P16_pos m
  split
  · rw [P16]; omega
  · obtain ⟨_, _, _, _, _, _, _, _, h1, h2⟩ := h.elem hm (lead := lead) (by omega)
    refine ⟨Int.mul_nonneg h1 (by omega), ?_⟩
    rw [P16]
    exact Int.mul_le_mul_of_nonneg_right h2 (by omega)
theorem onS_take {f : Int → Int} : ∀ {d : List Oc} {k : Nat} {o : Oc}, d[k]? = some o → onS f (d.take (k + 1)) = onS f (d.take k) + o.w * f o.r := by
  intro d
  induction d with
  | nil => intro k o h; simp at h
  | cons x r ih =>
    intro k o h
    cases k with
    | zero => simp at h; subst h; simp [onS]
    | succ k =>
      simp at h
      have := ih h
      simp only [List.take_succ_cons, onS]
      rw [this]; omega
theorem onS_bound {f : Int → Int} {M : Int} (hM : 0 ≤ M) : ∀ {d : List Oc}, (∀ o ∈ d, 0 ≤ o.r ∧ o.r ≤ 7 ∧ 1 ≤ o.w ∧ o.w ≤ 16) → (∀ o ∈ d, 0 ≤ f o.r ∧ f o.r ≤ M) → 0 ≤ onS f d ∧ onS f d ≤ sumW d * M := by
  intro d
  induction d with
  | nil => intro _ _; simp [onS, sumW]
  | cons o r ih =>
    intro h h'
    have h1 := ih (fun x hx => h x (List.mem_cons_of_mem _ hx)) (fun x hx => h' x (List.mem_cons_of_mem _ hx))
    have h2 := h o List.mem_cons_self
    have h3 := h' o List.mem_cons_self
    have h4 : o.w * f o.r ≤ o.w * M := Int.mul_le_mul_of_nonneg_left h3.2 (by omega)
    have h5 : 0 ≤ o.w * f o.r := Int.mul_nonneg (by omega) h3.1
    simp only [onS, sumW, Int.add_mul]
    omega
theorem onS_mono {f g : Int → Int} : ∀ {d : List Oc}, (∀ o ∈ d, 0 ≤ o.r ∧ o.r ≤ 7 ∧ 1 ≤ o.w ∧ o.w ≤ 16) → (∀ o ∈ d, f o.r ≤ g o.r) → onS f d ≤ onS g d := by
  intro d
  induction d with
  | nil => intro _ _; exact Int.le_refl _
  | cons o r ih =>
    intro h h'
    have h1 := ih (fun x hx => h x (List.mem_cons_of_mem _ hx)) (fun x hx => h' x (List.mem_cons_of_mem _ hx))
    have h2 := h o List.mem_cons_self
    have h3 := Int.mul_le_mul_of_nonneg_left (h' o List.mem_cons_self) (show 0 ≤ o.w by omega)
    simp only [onS]
    omega
theorem sumW_take : ∀ {d : List Oc} (k : Nat), (∀ o ∈ d, 0 ≤ o.r ∧ o.r ≤ 7 ∧ 1 ≤ o.w ∧ o.w ≤ 16) → sumW (d.take k) ≤ sumW d := by
  intro d
  induction d with
  | nil => intro k _; simp
  | cons o r ih =>
    intro k h
    cases k with
    | zero => have := sumW_le h; simpa [sumW] using this
    | succ k =>
      have := ih k (fun x hx => h x (List.mem_cons_of_mem _ hx))
      simp only [List.take_succ_cons, sumW]
      omega
theorem OkT.part {t : Tk} (h : OkT t) {f : Int → Int} {M : Int} (hM : 0 ≤ M) (hf : ∀ o ∈ t.d, 0 ≤ f o.r ∧ f o.r ≤ M) (k : Nat) : 0 ≤ onS f (t.d.take k) ∧ onS f (t.d.take k) ≤ 16 * M := by
  have h1 := onS_bound (d := t.d.take k) hM (fun o ho => h.d.each o (List.mem_of_mem_take ho)) (fun o ho => hf o (List.mem_of_mem_take ho))
  have h2 := sumW_take k h.d.each
  rw [h.d.sum] at h2
  exact ⟨h1.1, Int.le_trans h1.2 (Int.mul_le_mul_of_nonneg_right h2 hM)⟩
theorem OkT.full {t : Tk} (h : OkT t) {f : Int → Int} {M : Int} (hM : 0 ≤ M) (hf : ∀ o ∈ t.d, 0 ≤ f o.r ∧ f o.r ≤ M) : 0 ≤ onS f t.d ∧ onS f t.d ≤ 16 * M := by
  have := h.part hM hf t.d.length
  rwa [List.take_length] at this
theorem OkT.val {t : Tk} (h : OkT t) : ∀ {m : Nat}, (m : Int) ≤ t.ov → ∀ lead, 0 ≤ valT t m lead ∧ valT t m lead ≤ P16 (m + 1) := by
  intro m
  induction m with
  | zero => intro hm lead; exact h.now hm lead
  | succ m ih =>
    intro hm lead
    have h1 := h.now hm lead
    have h2 := h.full (f := fun r => valT t m (lead + r)) (M := P16 (m + 1)) (by have := P16_pos (m + 1); omega) (fun o _ => ih (by omega) _)
    rw [valT]
    have e : P16 (m + 1 + 1) = 16 * P16 (m + 1) := rfl
    omega
theorem OkT.rule {t : Tk} (h : OkT t) (ls : List Int) : ∀ {m : Nat}, (m : Int) ≤ t.ov → ∀ lead, 0 ≤ ruleT t ls m lead ∧ ruleT t ls m lead ≤ valT t m lead := by
  intro m
  induction m with
  | zero => intro hm lead; exact ⟨(h.now hm lead).1, Int.le_refl _⟩
  | succ m ih =>
    intro hm lead
    have h1 := h.now hm lead
    have h2 := h.full (f := fun r => ruleT t ls m (lead + r)) (M := P16 (m + 1)) (by have := P16_pos (m + 1); omega) (fun o _ => ⟨(ih (by omega) _).1, Int.le_trans (ih (by omega) _).2 (h.val (by omega) _).2⟩)
    have h3 := onS_mono (f := fun r => ruleT t ls m (lead + r)) (g := fun r => valT t m (lead + r)) h.d.each (fun o _ => (ih (by omega) _).2)
    rw [ruleT, valT]
    split <;> omega
theorem OkT.now_mono {t : Tk} (h : OkT t) {m : Nat} (hm : (m : Int) ≤ t.ov) {lead lead' : Int} (hl : lead ≤ lead') : nowT t lead m ≤ nowT t lead' m := by
  by_cases h0 : lead < 0
  · have := (h.now hm lead').1
    rw [nowT, if_pos h0]; exact this
  · have hsp := h.sp
    obtain ⟨l, i, a1, a2, a3, a4, a5, a6, a7, a8⟩ := h.elem hm (lead := lead) (by omega)
    obtain ⟨l', i', b1, b2, b3, b4, b5, b6, b7, b8⟩ := h.elem hm (lead := lead') (by omega)
    rw [a1] at b1
    injection b1 with b1
    subst b1
    obtain ⟨_, h1, _, _, _, h5⟩ := h.at_ hm
    rw [a1] at h1
    injection h1 with h1
    subst h1
    have hii : i ≤ i' := by
      have := Int.ediv_le_ediv (show 0 < t.sp by omega) hl
      omega
    rw [nowT, if_neg h0, nowT, if_neg (by omega)]
    have hp := P16_pos m
    refine Int.mul_le_mul_of_nonneg_right ?_ (by omega)
    rw [List.getElem?_eq_getElem a5] at a6
    rw [List.getElem?_eq_getElem b5] at b6
    injection a6 with a6
    injection b6 with b6
    rw [← a6, ← b6]
    rcases Nat.lt_or_ge i i' with hlt | hge
    · exact List.pairwise_iff_getElem.1 h5 i i' a5 b5 hlt
    · obtain rfl : i = i' := by omega
      exact Int.le_refl _
theorem OkT.val_mono {t : Tk} (h : OkT t) : ∀ {m : Nat}, (m : Int) ≤ t.ov → ∀ {lead lead' : Int}, lead ≤ lead' → valT t m lead ≤ valT t m lead' := by
  intro m
  induction m with
  | zero => intro hm lead lead' hl; exact h.now_mono hm hl
  | succ m ih =>
    intro hm lead lead' hl
    have h1 := h.now_mono hm hl
    have h3 := onS_mono (f := fun r => valT t m (lead + r)) (g := fun r => valT t m (lead' + r)) h.d.each (fun o _ => ih (by omega) (by omega))
    rw [valT, valT]
    omega
end Go.Proofs.YtkmkdknjpnkkpaaGreatDoor
