/-
  Chapter 55, plain: what Accept accepts: pairs of indices, one for each match.
-/
import Derived.Test.YtckbhdokfkabfaaApp55
import Derived.Test.YtckbhdokfkabfaaRf55
import Derived.Test.YtckbhdokfkabfaaAcp55
set_option linter.unusedSimpArgs false
set_option linter.unusedVariables false
namespace Go.Proofs.Ytckbhdokfkabfaa
open Go.RowKit
theorem sless_trans : ∀ a b c : List UInt8, Op.bytesLess a b = true → Op.bytesLess b c = true → Op.bytesLess a c = true
  | [], [], _, h, _ => by cases h
  | _ :: _, [], _, h, _ => by simp [Op.bytesLess] at h
  | _, _ :: _, [], _, h => by simp [Op.bytesLess] at h
  | [], _ :: _, _ :: _, _, _ => rfl
  | x :: a, y :: b, z :: c, h, h2 => by
    simp only [Op.bytesLess, Bool.or_eq_true, Bool.and_eq_true, decide_eq_true_eq, beq_iff_eq] at h h2 ⊢
    rcases h with h | ⟨rfl, h⟩
    · have h1 : x.toNat < y.toNat := h
      rcases h2 with h2 | ⟨rfl, h2⟩
      · have h3 : y.toNat < z.toNat := h2
        exact .inl (show x.toNat < z.toNat by omega)
      · exact .inl h
    · rcases h2 with h2 | ⟨rfl, h2⟩
      · exact .inl h2
      · exact .inr ⟨rfl, sless_trans a b c h h2⟩
theorem sless_irr : ∀ a : List UInt8, Op.bytesLess a a = false
  | [] => rfl
  | x :: a => by
    have h1 : ¬ x < x := fun h => by have h2 : x.toNat < x.toNat := h; omega
    simp only [Op.bytesLess, sless_irr a, Bool.and_false, Bool.or_false, decide_eq_false_iff_not]
    exact h1
theorem slt_tr {a b c : ByteArray} (h : slt a b = true) (h2 : slt b c = true) : slt a c = true := sless_trans _ _ _ h h2
theorem slt_irr (a : ByteArray) : slt a a = false := sless_irr _
theorem um_step {M : List Dty} {U : List Ump} (h : CkOk M U) : ∀ (n i : Nat) (x y : Ump), U[i]? = some x → U[i + 1 + n]? = some y → slt x.nm y.nm = true := by
  intro n
  induction n with
  | zero => intro i x y hx hy; exact h.uasc i x y hx hy
  | succ n ih =>
    intro i x y hx hy
    have hl := (List.getElem?_eq_some_iff.1 hy).1
    obtain ⟨z, hz⟩ : ∃ z, U[i + 1 + n]? = some z := ⟨_, List.getElem?_eq_getElem (by omega)⟩
    exact slt_tr (ih i x z hx hz) (h.uasc (i + 1 + n) z y hz hy)
theorem um_lt {M : List Dty} {U : List Ump} (h : CkOk M U) {i j : Nat} {x y : Ump} (hij : i < j) (hx : U[i]? = some x) (hy : U[j]? = some y) : slt x.nm y.nm = true :=
  um_step h (j - i - 1) i x y hx (by rw [show i + 1 + (j - i - 1) = j by omega]; exact hy)
theorem dt_step {M : List Dty} {U : List Ump} (h : CkOk M U) : ∀ (n i : Nat) (x y : Dty), M[i]? = some x → M[i + 1 + n]? = some y → x.m < y.m := by
  intro n
  induction n with
  | zero => intro i x y hx hy; exact h.asc i x y hx hy
  | succ n ih =>
    intro i x y hx hy
    have hl := (List.getElem?_eq_some_iff.1 hy).1
    obtain ⟨z, hz⟩ : ∃ z, M[i + 1 + n]? = some z := ⟨_, List.getElem?_eq_getElem (by omega)⟩
    have h1 := ih i x z hx hz
    have h2 := h.asc (i + 1 + n) z y hz hy
    omega
theorem dt_lt {M : List Dty} {U : List Ump} (h : CkOk M U) {i j : Nat} {x y : Dty} (hij : i < j) (hx : M[i]? = some x) (hy : M[j]? = some y) : x.m < y.m :=
  dt_step h (j - i - 1) i x y hx (by rw [show i + 1 + (j - i - 1) = j by omega]; exact hy)
theorem dt_pair {M : List Dty} {U : List Ump} (h : CkOk M U) : M.Pairwise fun x y => x.m < y.m :=
  List.pairwise_iff_getElem.2 fun i j hi hj hij => dt_lt h hij (List.getElem?_eq_getElem hi) (List.getElem?_eq_getElem hj)
theorem dt_uniq {M : List Dty} {U : List Ump} (h : CkOk M U) {x y : Dty} (hx : x ∈ M) (hy : y ∈ M) (e : x.m = y.m) : x = y := by
  obtain ⟨i, hi⟩ := List.getElem?_of_mem hx
  obtain ⟨j, hj⟩ := List.getElem?_of_mem hy
  rcases Nat.lt_trichotomy i j with k | k | k
  · have := dt_lt h k hi hj; omega
  · subst k; rw [hi] at hj; exact Option.some.inj hj
  · have := dt_lt h k hj hi; omega
theorem nm_ne {M : List Dty} {U : List Ump} (h : CkOk M U) {i j : Nat} {x y : Ump} (hij : i ≠ j) (hx : U[i]? = some x) (hy : U[j]? = some y) : seq x.nm y.nm = false := by
  cases hs : seq x.nm y.nm
  · rfl
  · have e := seq_eq.1 hs
    rcases Nat.lt_or_gt_of_ne hij with k | k
    · have := um_lt h k hx hy; rw [e, slt_irr] at this; cases this
    · have := um_lt h k hy hx; rw [e, slt_irr] at this; cases this
theorem idx_lt {M : List Dty} {U : List Ump} (h : CkOk M U) {i j : Nat} {x y : Ump} (hx : U[i]? = some x) (hy : U[j]? = some y) (hs : slt x.nm y.nm = true) : i < j := by
  rcases Nat.lt_trichotomy i j with k | k | k
  · exact k
  · subst k; rw [hx] at hy; have e := Option.some.inj hy; subst e; rw [slt_irr] at hs; cases hs
  · have := slt_tr hs (um_lt h k hy hx); rw [slt_irr] at this; cases this
theorem fnd_of {M : List Dty} {U : List Ump} (h : CkOk M U) {i : Nat} {y : Ump} (hi : U[i]? = some y) : fnd U y.nm = i :=
  fidx_some hi (seq_eq.2 rfl) (fun j z hj hz => nm_ne h (by omega) hz hi)
/-- No umpire in common. -/
def dis (p q : Nat × Nat) : Prop := p.1 ≠ q.1 ∧ p.1 ≠ q.2 ∧ p.2 ≠ q.1 ∧ p.2 ≠ q.2
structure OkE (U : List Ump) (e : Dty × (Nat × Nat)) : Prop where
  lt : e.2.1 < e.2.2
  a : ∃ y, U[e.2.1]? = some y ∧ mayB e.1 y = true
  b : ∃ y, U[e.2.2]? = some y ∧ mayB e.1 y = true
/-- A full appointment: each match with the indices of its umpires. -/
structure OkZ (U : List Ump) (Z : List (Dty × (Nat × Nat))) : Prop where
  ok : ∀ e ∈ Z, OkE U e
  ds : Z.Pairwise fun e f => e.1.d = f.1.d → dis e.2 f.2
def zE (U : List Ump) (e : Dty × (Nat × Nat)) : Apd := ⟨e.1.m, nmU U e.2.1, nmU U e.2.2⟩
theorem nmU_of {U : List Ump} {i : Nat} {y : Ump} (h : U[i]? = some y) : nmU U (i : Int) = y.nm := by
  unfold nmU
  rw [Int.toNat_natCast, h]; rfl
theorem acc_of {M : List Dty} {U : List Ump} {Z : List (Dty × (Nat × Nat))} (hc : ckA M U = 0) (hz : OkZ U Z) (hm : Z.map Prod.fst = M) : accF M U (Z.map (zE U)) = 0 := by
  have hk := ck_ok hc
  have hlen : M.length = Z.length := by rw [← hm, List.length_map]
  have hat : ∀ k e, Z[k]? = some e → M[k]? = some e.1 ∧ (Z.map (zE U))[k]? = some (zE U e) := fun k e he => ⟨by rw [← hm, List.getElem?_map, he]; rfl, by rw [List.getElem?_map, he]; rfl⟩
  unfold accF
  rw [hc, thenR_zero]
  have heq : eqM M (Z.map (zE U)) = true := by
    unfold eqM
    rw [List.length_map, decide_eq_true hlen, Bool.true_and, decide_eq_true_eq]
    refine res_end fun j hj => ?_
    obtain ⟨e, he⟩ : ∃ e, Z[j]? = some e := ⟨_, List.getElem?_eq_getElem (by omega)⟩
    obtain ⟨h1, h2⟩ := hat j e he
    simp [amN, h1, h2, zE]
  rw [heq, if_neg (by decide)]
  unfold acR
  refine res_end fun k hkl => ?_
  rw [List.length_map] at hkl
  obtain ⟨e, he⟩ : ∃ e, Z[k]? = some e := ⟨_, List.getElem?_eq_getElem hkl⟩
  obtain ⟨h1, h2⟩ := hat k e he
  rw [acN_at h1 h2]
  obtain ⟨hlt, ⟨ya, ha1, ha2⟩, yb, hb1, hb2⟩ := hz.ok e (List.mem_of_getElem? he)
  have htk : ∀ i y, (i = e.2.1 ∨ i = e.2.2) → U[i]? = some y → takB M (Z.map (zE U)) k e.1.d y.nm = false := fun i y hi hy => by
    unfold takB
    refine List.any_eq_false.2 fun q hq => ?_
    have hqk := List.mem_range.1 hq
    obtain ⟨f, hf⟩ : ∃ f, Z[q]? = some f := ⟨_, List.getElem?_eq_getElem (by omega)⟩
    obtain ⟨f1, f2⟩ := hat q f hf
    unfold stN
    rw [f1, f2]
    dsimp only
    obtain ⟨_, ⟨yc, hc1, _⟩, yd, hd1, _⟩ := hz.ok f (List.mem_of_getElem? hf)
    by_cases hd : f.1.d = e.1.d
    · have hp := List.pairwise_iff_getElem.1 hz.ds q k (by omega) hkl hqk
      rw [(List.getElem?_eq_some_iff.1 hf).2, (List.getElem?_eq_some_iff.1 he).2] at hp
      obtain ⟨p1, p2, p3, p4⟩ := hp hd
      have e1 : seq (zE U f).one y.nm = false := by
        show seq (nmU U f.2.1) y.nm = false
        rw [nmU_of hc1]
        refine nm_ne hk ?_ hc1 hy
        rcases hi with rfl | rfl
        · exact p1
        · exact p2
      have e2 : seq (zE U f).two y.nm = false := by
        show seq (nmU U f.2.2) y.nm = false
        rw [nmU_of hd1]
        refine nm_ne hk ?_ hd1 hy
        rcases hi with rfl | rfl
        · exact p3
        · exact p4
      rw [e1, e2]; simp
    · rw [show (f.1.d == e.1.d) = false by simpa using hd]; simp
  have ho : (zE U e).one = ya.nm := nmU_of ha1
  have ht : (zE U e).two = yb.nm := nmU_of hb1
  unfold acE
  rw [ho, ht, fnd_of hk ha1, fnd_of hk hb1, may_of ha1, may_of hb1, ha2, hb2, um_lt hk hlt ha1 hb1, htk _ _ (Or.inl rfl) ha1, htk _ _ (Or.inr rfl) hb1]
  rw [decide_eq_false (show ¬ ((e.2.1 : Nat) : Int) < 0 by omega), decide_eq_false (show ¬ ((e.2.2 : Nat) : Int) < 0 by omega)]
  rfl
theorem then_zero {a b : Int} (h : thenR a b = 0) : a = 0 ∧ b = 0 := by
  unfold thenR at h
  split at h
  · next e => exact ⟨e, h⟩
  · next e => exact (e h).elim
structure AcI (M : List Dty) (U : List Ump) (L : List Apd) (k : Nat) (x : Dty) (z : Apd) : Prop where
  ex : ∃ (a b : Nat) (ya yb : Ump), U[a]? = some ya ∧ U[b]? = some yb ∧ z.one = ya.nm ∧ z.two = yb.nm ∧ fnd U z.one = a ∧ fnd U z.two = b ∧ mayB x ya = true ∧ mayB x yb = true
  lt : slt z.one z.two = true
  t1 : takB M L k x.d z.one = false
  t2 : takB M L k x.d z.two = false
theorem ac_inv {M : List Dty} {U : List Ump} {L : List Apd} {k : Nat} {x : Dty} {z : Apd} (h : acE M U L k x z = 0) : AcI M U L k x z := by
  unfold acE at h
  split at h
  · cases h
  · rename_i h1
    split at h
    · cases h
    · rename_i h2
      split at h
      · cases h
      · rename_i h3
        split at h
        · cases h
        · rename_i h4
          simp only [Bool.or_eq_true, decide_eq_true_eq, not_or] at h1
          obtain ⟨a, ya, e1, e2, e3⟩ := fnd_at h1.1
          obtain ⟨b, yb, f1, f2, f3⟩ := fnd_at h1.2
          rw [e1, f1, may_of e2, may_of f2] at h3
          simp at h2 h3 h4
          exact ⟨⟨a, b, ya, yb, e2, f2, (seq_eq.1 e3).symm, (seq_eq.1 f3).symm, e1, f1, h3.1, h3.2⟩, h2, h4.1, h4.2⟩
theorem tak_no {M : List Dty} {L : List Apd} {k q : Nat} {d : Int} {s : ByteArray} {x : Dty} {z : Apd} (h : takB M L k d s = false) (hq : q < k) (hx : M[q]? = some x) (hz : L[q]? = some z) (hd : x.d = d) : z.one ≠ s ∧ z.two ≠ s := by
  unfold takB at h
  have h1 := List.any_eq_false.1 h q (List.mem_range.2 hq)
  unfold stN at h1
  rw [hx, hz] at h1
  simp only [hd, beq_self_eq_true, Bool.true_and, Bool.or_eq_true, not_or] at h1
  exact ⟨fun e => h1.1 (seq_eq.2 e), fun e => h1.2 (seq_eq.2 e)⟩
theorem acc_inv {M : List Dty} {U : List Ump} {L : List Apd} (h : accF M U L = 0) : ckA M U = 0 ∧ ∃ Z, OkZ U Z ∧ Z.map Prod.fst = M ∧ L = Z.map (zE U) := by
  unfold accF at h
  obtain ⟨hc, h2⟩ := then_zero h
  refine ⟨hc, ?_⟩
  have hk := ck_ok hc
  split at h2
  · cases h2
  · rename_i he
    have he : eqM M L = true := by simpa using he
    unfold eqM at he
    rw [Bool.and_eq_true, decide_eq_true_eq, decide_eq_true_eq] at he
    obtain ⟨hlen, hnum⟩ := he
    have hnum := res_zero hnum
    unfold acR at h2
    have h3 := res_zero h2
    let g : Apd → Nat × Nat := fun z => ((fnd U z.one).toNat, (fnd U z.two).toNat)
    have hat : ∀ k e, (M.zip (L.map g))[k]? = some e → ∃ z, M[k]? = some e.1 ∧ L[k]? = some z ∧ e.2 = g z ∧ AcI M U L k e.1 z ∧ e.1.m = z.m := fun k e he => by
      obtain ⟨k1, k2⟩ := List.getElem?_zip_eq_some.1 he
      rw [List.getElem?_map, Option.map_eq_some_iff] at k2
      obtain ⟨z, hz, hg⟩ := k2
      have hkl := (List.getElem?_eq_some_iff.1 hz).1
      have h4 := h3 k hkl
      rw [acN_at k1 hz] at h4
      have h5 := hnum k (by omega)
      simp [amN, k1, hz] at h5
      exact ⟨z, k1, hz, hg.symm, ac_inv h4, h5⟩
    refine ⟨M.zip (L.map g), ⟨fun e he => ?_, ?_⟩, List.map_fst_zip (by simp; omega), ?_⟩
    · obtain ⟨k, hkk⟩ := List.getElem?_of_mem he
      obtain ⟨z, h4, h5, h6, ⟨⟨a, b, ya, yb, i1, i2, i3, i4, i5, i6, i7, i8⟩, j2, j3, j4⟩, _⟩ := hat k e hkk
      have ea : e.2.1 = a := by rw [h6]; show (fnd U z.one).toNat = a; rw [i5]; simp
      have eb : e.2.2 = b := by rw [h6]; show (fnd U z.two).toNat = b; rw [i6]; simp
      refine ⟨?_, ⟨ya, by rw [ea]; exact i1, i7⟩, yb, by rw [eb]; exact i2, i8⟩
      rw [ea, eb]
      exact idx_lt hk i1 i2 (by rw [← i3, ← i4]; exact j2)
    · refine List.pairwise_iff_getElem.2 fun q k hq hkk hqk hd => ?_
      obtain ⟨e, he⟩ : ∃ e, (M.zip (L.map g))[k]? = some e := ⟨_, List.getElem?_eq_getElem hkk⟩
      obtain ⟨f, hf⟩ : ∃ f, (M.zip (L.map g))[q]? = some f := ⟨_, List.getElem?_eq_getElem hq⟩
      rw [(List.getElem?_eq_some_iff.1 he).2, (List.getElem?_eq_some_iff.1 hf).2] at hd ⊢
      obtain ⟨z, h4, h5, h6, ⟨⟨a, b, ya, yb, i1, i2, i3, i4, i5, i6, i7, i8⟩, j2, j3, j4⟩, _⟩ := hat k e he
      obtain ⟨z', h4', h5', h6', ⟨⟨a', b', ya', yb', i1', i2', i3', i4', i5', i6', i7', i8'⟩, j2', j3', j4'⟩, _⟩ := hat q f hf
      have ea : e.2.1 = a := by rw [h6]; show (fnd U z.one).toNat = a; rw [i5]; simp
      have eb : e.2.2 = b := by rw [h6]; show (fnd U z.two).toNat = b; rw [i6]; simp
      have ea' : f.2.1 = a' := by rw [h6']; show (fnd U z'.one).toNat = a'; rw [i5']; simp
      have eb' : f.2.2 = b' := by rw [h6']; show (fnd U z'.two).toNat = b'; rw [i6']; simp
      obtain ⟨k1, k2⟩ := tak_no j3 hqk h4' h5' hd
      obtain ⟨k3, k4⟩ := tak_no j4 hqk h4' h5' hd
      unfold dis
      rw [ea, eb, ea', eb']
      refine ⟨fun c => k1 ?_, fun c => k3 ?_, fun c => k2 ?_, fun c => k4 ?_⟩
      · subst c; rw [i1] at i1'; rw [i3, i3', Option.some.inj i1']
      · subst c; rw [i2] at i1'; rw [i4, i3', Option.some.inj i1']
      · subst c; rw [i1] at i2'; rw [i3, i4', Option.some.inj i2']
      · subst c; rw [i2] at i2'; rw [i4, i4', Option.some.inj i2']
    · apply List.ext_getElem?
      intro k
      by_cases hkl : k < L.length
      · obtain ⟨e, he⟩ : ∃ e, (M.zip (L.map g))[k]? = some e := ⟨_, List.getElem?_eq_getElem (by simp; omega)⟩
        obtain ⟨z, h4, h5, h6, ⟨⟨a, b, ya, yb, i1, i2, i3, i4, i5, i6, i7, i8⟩, j2, j3, j4⟩, hm⟩ := hat k e he
        rw [List.getElem?_map, he, h5]
        show some z = some (zE U e)
        have ea : e.2.1 = a := by rw [h6]; show (fnd U z.one).toNat = a; rw [i5]; simp
        have eb : e.2.2 = b := by rw [h6]; show (fnd U z.two).toNat = b; rw [i6]; simp
        unfold zE
        rw [ea, eb, nmU_of i1, nmU_of i2, ← i3, ← i4, hm]
      · rw [List.getElem?_eq_none (by omega), List.getElem?_eq_none (by simp; omega)]
end Go.Proofs.Ytckbhdokfkabfaa
