/-
  Chapter 55, plain: full appointments, the least one, sets that refute.
-/
import Derived.Test.YtckbhdokfkabfaaApp55
import Derived.Test.YtckbhdokfkabfaaRf55
import Derived.Test.YtckbhdokfkabfaaAcp55
set_option linter.unusedSimpArgs false
set_option linter.unusedVariables false
namespace Go.Proofs.Ytckbhdokfkabfaa
open Go.RowKit
set_option maxRecDepth 100000
set_option maxHeartbeats 8000000
theorem sless_trans : ∀ a b c : List UInt8, Op.bytesLess a b = true → Op.bytesLess b c = true → Op.bytesLess a c = true
  | [], [], _, h, _ => by cases h
  | _ :: _, [], _, h, _ => by simp [Op.bytesLess] at h
  | _, _ :: _, [], _, h => by simp [Op.bytesLess] at h
  | [], _ :: _, _ :: _, _, _ => rfl
  | x :: a, y :: b, z :: c, h, h2 => by
    simp only [Op.bytesLess, Bool.or_eq_true, Bool.and_eq_true, decide_eq_true_eq, beq_iff_eq] at h h2 ⊢
    rcases h with h | ⟨rfl, h⟩
    · have h1 : x.toNat < y.toNat := h
      rcases h2 with h2 | ⟨rfl, h2⟩
      · have h3 : y.toNat < z.toNat := h2
        exact .inl (show x.toNat < z.toNat by omega)
      · exact .inl h
    · rcases h2 with h2 | ⟨rfl, h2⟩
      · exact .inl h2
      · exact .inr ⟨rfl, sless_trans a b c h h2⟩
theorem sless_irr : ∀ a : List UInt8, Op.bytesLess a a = false
  | [] => rfl
  | x :: a => by
    have h1 : ¬ x < x := fun h => by have h2 : x.toNat < x.toNat := h; omega
    simp only [Op.bytesLess, sless_irr a, Bool.and_false, Bool.or_false, decide_eq_false_iff_not]
    exact h1
theorem slt_tr {a b c : ByteArray} (h : slt a b = true) (h2 : slt b c = true) : slt a c = true := sless_trans _ _ _ h h2
theorem slt_irr (a : ByteArray) : slt a a = false := sless_irr _
theorem um_step {M : List Dty} {U : List Ump} (h : CkOk M U) : ∀ (n i : Nat) (x y : Ump), U[i]? = some x → U[i + 1 + n]? = some y → slt x.nm y.nm = true := by
  intro n
  induction n with
  | zero => intro i x y hx hy; exact h.uasc i x y hx hy
  | succ n ih =>
    intro i x y hx hy
    have hl := (List.getElem?_eq_some_iff.1 hy).1
    obtain ⟨z, hz⟩ : ∃ z, U[i + 1 + n]? = some z := ⟨_, List.getElem?_eq_getElem (by omega)⟩
    exact slt_tr (ih i x z hx hz) (h.uasc (i + 1 + n) z y hz hy)
theorem um_lt {M : List Dty} {U : List Ump} (h : CkOk M U) {i j : Nat} {x y : Ump} (hij : i < j) (hx : U[i]? = some x) (hy : U[j]? = some y) : slt x.nm y.nm = true :=
  um_step h (j - i - 1) i x y hx (by rw [show i + 1 + (j - i - 1) = j by omega]; exact hy)
theorem dt_step {M : List Dty} {U : List Ump} (h : CkOk M U) : ∀ (n i : Nat) (x y : Dty), M[i]? = some x → M[i + 1 + n]? = some y → x.m < y.m := by
  intro n
  induction n with
  | zero => intro i x y hx hy; exact h.asc i x y hx hy
  | succ n ih =>
    intro i x y hx hy
    have hl := (List.getElem?_eq_some_iff.1 hy).1
    obtain ⟨z, hz⟩ : ∃ z, M[i + 1 + n]? = some z := ⟨_, List.getElem?_eq_getElem (by omega)⟩
    have h1 := ih i x z hx hz
    have h2 := h.asc (i + 1 + n) z y hz hy
    omega
theorem dt_lt {M : List Dty} {U : List Ump} (h : CkOk M U) {i j : Nat} {x y : Dty} (hij : i < j) (hx : M[i]? = some x) (hy : M[j]? = some y) : x.m < y.m :=
  dt_step h (j - i - 1) i x y hx (by rw [show i + 1 + (j - i - 1) = j by omega]; exact hy)
theorem dt_pair {M : List Dty} {U : List Ump} (h : CkOk M U) : M.Pairwise fun x y => x.m < y.m :=
  List.pairwise_iff_getElem.2 fun i j hi hj hij => dt_lt h hij (List.getElem?_eq_getElem hi) (List.getElem?_eq_getElem hj)
theorem dt_uniq {M : List Dty} {U : List Ump} (h : CkOk M U) {x y : Dty} (hx : x ∈ M) (hy : y ∈ M) (e : x.m = y.m) : x = y := by
  obtain ⟨i, hi⟩ := List.getElem?_of_mem hx
  obtain ⟨j, hj⟩ := List.getElem?_of_mem hy
  rcases Nat.lt_trichotomy i j with k | k | k
  · have := dt_lt h k hi hj; omega
  · subst k; rw [hi] at hj; exact Option.some.inj hj
  · have := dt_lt h k hj hi; omega
theorem nm_ne {M : List Dty} {U : List Ump} (h : CkOk M U) {i j : Nat} {x y : Ump} (hij : i ≠ j) (hx : U[i]? = some x) (hy : U[j]? = some y) : seq x.nm y.nm = false := by
  cases hs : seq x.nm y.nm
  · rfl
  · have e := seq_eq.1 hs
    rcases Nat.lt_or_gt_of_ne hij with k | k
    · have := um_lt h k hx hy; rw [e, slt_irr] at this; cases this
    · have := um_lt h k hy hx; rw [e, slt_irr] at this; cases this
theorem idx_lt {M : List Dty} {U : List Ump} (h : CkOk M U) {i j : Nat} {x y : Ump} (hx : U[i]? = some x) (hy : U[j]? = some y) (hs : slt x.nm y.nm = true) : i < j := by
  rcases Nat.lt_trichotomy i j with k | k | k
  · exact k
  · subst k; rw [hx] at hy; have e := Option.some.inj hy; subst e; rw [slt_irr] at hs; cases hs
  · have := slt_tr hs (um_lt h k hy hx); rw [slt_irr] at this; cases this
theorem fnd_of {M : List Dty} {U : List Ump} (h : CkOk M U) {i : Nat} {y : Ump} (hi : U[i]? = some y) : fnd U y.nm = i :=
  fidx_some hi (seq_eq.2 rfl) (fun j z hj hz => nm_ne h (by omega) hz hi)
/-- No umpire in common. -/
def dis (p q : Nat × Nat) : Prop := p.1 ≠ q.1 ∧ p.1 ≠ q.2 ∧ p.2 ≠ q.1 ∧ p.2 ≠ q.2
structure OkE (U : List Ump) (e : Dty × (Nat × Nat)) : Prop where
  lt : e.2.1 < e.2.2
  a : ∃ y, U[e.2.1]? = some y ∧ mayB e.1 y = true
  b : ∃ y, U[e.2.2]? = some y ∧ mayB e.1 y = true
/-- A full appointment: each match with the indices of its umpires. -/
structure OkZ (U : List Ump) (Z : List (Dty × (Nat × Nat))) : Prop where
  ok : ∀ e ∈ Z, OkE U e
  ds : Z.Pairwise fun e f => e.1.d = f.1.d → dis e.2 f.2
def zE (U : List Ump) (e : Dty × (Nat × Nat)) : Apd := ⟨e.1.m, nmU U e.2.1, nmU U e.2.2⟩
theorem nmU_of {U : List Ump} {i : Nat} {y : Ump} (h : U[i]? = some y) : nmU U (i : Int) = y.nm := by
  unfold nmU
  rw [Int.toNat_natCast, h]; rfl
theorem acc_of {M : List Dty} {U : List Ump} {Z : List (Dty × (Nat × Nat))} (hc : ckA M U = 0) (hz : OkZ U Z) (hm : Z.map Prod.fst = M) : accF M U (Z.map (zE U)) = 0 := by
  have hk := ck_ok hc
  have hlen : M.length = Z.length := by rw [← hm, List.length_map]
  have hat : ∀ k e, Z[k]? = some e → M[k]? = some e.1 ∧ (Z.map (zE U))[k]? = some (zE U e) := fun k e he => ⟨by rw [← hm, List.getElem?_map, he]; rfl, by rw [List.getElem?_map, he]; rfl⟩
  unfold accF
  rw [hc, thenR_zero]
  have heq : eqM M (Z.map (zE U)) = true := by
    unfold eqM
    rw [List.length_map, decide_eq_true hlen, Bool.true_and, decide_eq_true_eq]
    refine res_end fun j hj => ?_
    obtain ⟨e, he⟩ : ∃ e, Z[j]? = some e := ⟨_, List.getElem?_eq_getElem (by omega)⟩
    obtain ⟨h1, h2⟩ := hat j e he
    simp [amN, h1, h2, zE]
  rw [heq, if_neg (by decide)]
  unfold acR
  refine res_end fun k hkl => ?_
  rw [List.length_map] at hkl
  obtain ⟨e, he⟩ : ∃ e, Z[k]? = some e := ⟨_, List.getElem?_eq_getElem hkl⟩
  obtain ⟨h1, h2⟩ := hat k e he
  rw [acN_at h1 h2]
  obtain ⟨hlt, ⟨ya, ha1, ha2⟩, yb, hb1, hb2⟩ := hz.ok e (List.mem_of_getElem? he)
  have htk : ∀ i y, (i = e.2.1 ∨ i = e.2.2) → U[i]? = some y → takB M (Z.map (zE U)) k e.1.d y.nm = false := fun i y hi hy => by
    unfold takB
    refine List.any_eq_false.2 fun q hq => ?_
    have hqk := List.mem_range.1 hq
    obtain ⟨f, hf⟩ : ∃ f, Z[q]? = some f := ⟨_, List.getElem?_eq_getElem (by omega)⟩
    obtain ⟨f1, f2⟩ := hat q f hf
    unfold stN
    rw [f1, f2]
    dsimp only
    obtain ⟨_, ⟨yc, hc1, _⟩, yd, hd1, _⟩ := hz.ok f (List.mem_of_getElem? hf)
    by_cases hd : f.1.d = e.1.d
    · have hp := List.pairwise_iff_getElem.1 hz.ds q k (by omega) hkl hqk
      rw [(List.getElem?_eq_some_iff.1 hf).2, (List.getElem?_eq_some_iff.1 he).2] at hp
      obtain ⟨p1, p2, p3, p4⟩ := hp hd
      have e1 : seq (zE U f).one y.nm = false := by
        show seq (nmU U f.2.1) y.nm = false
        rw [nmU_of hc1]
        refine nm_ne hk ?_ hc1 hy
        rcases hi with rfl | rfl
        · exact p1
        · exact p2
      have e2 : seq (zE U f).two y.nm = false := by
        show seq (nmU U f.2.2) y.nm = false
        rw [nmU_of hd1]
        refine nm_ne hk ?_ hd1 hy
        rcases hi with rfl | rfl
        · exact p3
        · exact p4
      rw [e1, e2]; simp
    · rw [show (f.1.d == e.1.d) = false by simpa using hd]; simp
  have ho : (zE U e).one = ya.nm := nmU_of ha1
  have ht : (zE U e).two = yb.nm := nmU_of hb1
  unfold acE
  rw [ho, ht, fnd_of hk ha1, fnd_of hk hb1, may_of ha1, may_of hb1, ha2, hb2, um_lt hk hlt ha1 hb1, htk _ _ (Or.inl rfl) ha1, htk _ _ (Or.inr rfl) hb1]
  rw [decide_eq_false (show ¬ ((e.2.1 : Nat) : Int) < 0 by omega), decide_eq_false (show ¬ ((e.2.2 : Nat) : Int) < 0 by omega)]
  rfl
theorem then_zero {a b : Int} (h : thenR a b = 0) : a = 0 ∧ b = 0 := by
  unfold thenR at h
  split at h
  · next e => exact ⟨e, h⟩
  · next e => exact (e h).elim
structure AcI (M : List Dty) (U : List Ump) (L : List Apd) (k : Nat) (x : Dty) (z : Apd) : Prop where
  ex : ∃ (a b : Nat) (ya yb : Ump), U[a]? = some ya ∧ U[b]? = some yb ∧ z.one = ya.nm ∧ z.two = yb.nm ∧ fnd U z.one = a ∧ fnd U z.two = b ∧ mayB x ya = true ∧ mayB x yb = true
  lt : slt z.one z.two = true
  t1 : takB M L k x.d z.one = false
  t2 : takB M L k x.d z.two = false
theorem ac_inv {M : List Dty} {U : List Ump} {L : List Apd} {k : Nat} {x : Dty} {z : Apd} (h : acE M U L k x z = 0) : AcI M U L k x z := by
  unfold acE at h
  split at h
  · cases h
  · rename_i h1
    split at h
    · cases h
    · rename_i h2
      split at h
      · cases h
      · rename_i h3
        split at h
        · cases h
        · rename_i h4
          simp only [Bool.or_eq_true, decide_eq_true_eq, not_or] at h1
          obtain ⟨a, ya, e1, e2, e3⟩ := fnd_at h1.1
          obtain ⟨b, yb, f1, f2, f3⟩ := fnd_at h1.2
          rw [e1, f1, may_of e2, may_of f2] at h3
          simp at h2 h3 h4
          exact ⟨⟨a, b, ya, yb, e2, f2, (seq_eq.1 e3).symm, (seq_eq.1 f3).symm, e1, f1, h3.1, h3.2⟩, h2, h4.1, h4.2⟩
theorem tak_no {M : List Dty} {L : List Apd} {k q : Nat} {d : Int} {s : ByteArray} {x : Dty} {z : Apd} (h : takB M L k d s = false) (hq : q < k) (hx : M[q]? = some x) (hz : L[q]? = some z) (hd : x.d = d) : z.one ≠ s ∧ z.two ≠ s := by
  unfold takB at h
  have h1 := List.any_eq_false.1 h q (List.mem_range.2 hq)
  unfold stN at h1
  rw [hx, hz] at h1
  simp only [hd, beq_self_eq_true, Bool.true_and, Bool.or_eq_true, not_or] at h1
  exact ⟨fun e => h1.1 (seq_eq.2 e), fun e => h1.2 (seq_eq.2 e)⟩
theorem acc_inv {M : List Dty} {U : List Ump} {L : List Apd} (h : accF M U L = 0) : ckA M U = 0 ∧ ∃ Z, OkZ U Z ∧ Z.map Prod.fst = M ∧ L = Z.map (zE U) := by
  unfold accF at h
  obtain ⟨hc, h2⟩ := then_zero h
  refine ⟨hc, ?_⟩
  have hk := ck_ok hc
  split at h2
  · cases h2
  · rename_i he
    have he : eqM M L = true := by simpa using he
    unfold eqM at he
    rw [Bool.and_eq_true, decide_eq_true_eq, decide_eq_true_eq] at he
    obtain ⟨hlen, hnum⟩ := he
    have hnum := res_zero hnum
    unfold acR at h2
    have h3 := res_zero h2
    let g : Apd → Nat × Nat := fun z => ((fnd U z.one).toNat, (fnd U z.two).toNat)
    have hat : ∀ k e, (M.zip (L.map g))[k]? = some e → ∃ z, M[k]? = some e.1 ∧ L[k]? = some z ∧ e.2 = g z ∧ AcI M U L k e.1 z ∧ e.1.m = z.m := fun k e he => by
      obtain ⟨k1, k2⟩ := List.getElem?_zip_eq_some.1 he
      rw [List.getElem?_map, Option.map_eq_some_iff] at k2
      obtain ⟨z, hz, hg⟩ := k2
      have hkl := (List.getElem?_eq_some_iff.1 hz).1
      have h4 := h3 k hkl
      rw [acN_at k1 hz] at h4
      have h5 := hnum k (by omega)
      simp [amN, k1, hz] at h5
      exact ⟨z, k1, hz, hg.symm, ac_inv h4, h5⟩
    refine ⟨M.zip (L.map g), ⟨fun e he => ?_, ?_⟩, List.map_fst_zip (by simp; omega), ?_⟩
    · obtain ⟨k, hkk⟩ := List.getElem?_of_mem he
      obtain ⟨z, h4, h5, h6, ⟨⟨a, b, ya, yb, i1, i2, i3, i4, i5, i6, i7, i8⟩, j2, j3, j4⟩, _⟩ := hat k e hkk
      have ea : e.2.1 = a := by rw [h6]; show (fnd U z.one).toNat = a; rw [i5]; simp
      have eb : e.2.2 = b := by rw [h6]; show (fnd U z.two).toNat = b; rw [i6]; simp
      refine ⟨?_, ⟨ya, by rw [ea]; exact i1, i7⟩, yb, by rw [eb]; exact i2, i8⟩
      rw [ea, eb]
      exact idx_lt hk i1 i2 (by rw [← i3, ← i4]; exact j2)
    · refine List.pairwise_iff_getElem.2 fun q k hq hkk hqk hd => ?_
      obtain ⟨e, he⟩ : ∃ e, (M.zip (L.map g))[k]? = some e := ⟨_, List.getElem?_eq_getElem hkk⟩
      obtain ⟨f, hf⟩ : ∃ f, (M.zip (L.map g))[q]? = some f := ⟨_, List.getElem?_eq_getElem hq⟩
      rw [(List.getElem?_eq_some_iff.1 he).2, (List.getElem?_eq_some_iff.1 hf).2] at hd ⊢
      obtain ⟨z, h4, h5, h6, ⟨⟨a, b, ya, yb, i1, i2, i3, i4, i5, i6, i7, i8⟩, j2, j3, j4⟩, _⟩ := hat k e he
      obtain ⟨z', h4', h5', h6', ⟨⟨a', b', ya', yb', i1', i2', i3', i4', i5', i6', i7', i8'⟩, j2', j3', j4'⟩, _⟩ := hat q f hf
      have ea : e.2.1 = a := by rw [h6]; show (fnd U z.one).toNat = a; rw [i5]; simp
      have eb : e.2.2 = b := by rw [h6]; show (fnd U z.two).toNat = b; rw [i6]; simp
      have ea' : f.2.1 = a' := by rw [h6']; show (fnd U z'.one).toNat = a'; rw [i5']; simp
      have eb' : f.2.2 = b' := by rw [h6']; show (fnd U z'.two).toNat = b'; rw [i6']; simp
      obtain ⟨k1, k2⟩ := tak_no j3 hqk h4' h5' hd
      obtain ⟨k3, k4⟩ := tak_no j4 hqk h4' h5' hd
      unfold dis
      rw [ea, eb, ea', eb']
      refine ⟨fun c => k1 ?_, fun c => k3 ?_, fun c => k2 ?_, fun c => k4 ?_⟩
      · subst c; rw [i1] at i1'; rw [i3, i3', Option.some.inj i1']
      · subst c; rw [i2] at i1'; rw [i4, i3', Option.some.inj i1']
      · subst c; rw [i1] at i2'; rw [i3, i4', Option.some.inj i2']
      · subst c; rw [i2] at i2'; rw [i4, i4', Option.some.inj i2']
    · apply List.ext_getElem?
      intro k
      by_cases hkl : k < L.length
      · obtain ⟨e, he⟩ : ∃ e, (M.zip (L.map g))[k]? = some e := ⟨_, List.getElem?_eq_getElem (by simp; omega)⟩
        obtain ⟨z, h4, h5, h6, ⟨⟨a, b, ya, yb, i1, i2, i3, i4, i5, i6, i7, i8⟩, j2, j3, j4⟩, hm⟩ := hat k e he
        rw [List.getElem?_map, he, h5]
        show some z = some (zE U e)
        have ea : e.2.1 = a := by rw [h6]; show (fnd U z.one).toNat = a; rw [i5]; simp
        have eb : e.2.2 = b := by rw [h6]; show (fnd U z.two).toNat = b; rw [i6]; simp
        unfold zE
        rw [ea, eb, nmU_of i1, nmU_of i2, ← i3, ← i4, hm]
      · rw [List.getElem?_eq_none (by omega), List.getElem?_eq_none (by simp; omega)]

def zd (Z : List (Dty × (Nat × Nat))) (d : Int) : List (Dty × (Nat × Nat)) := Z.filter fun e => e.1.d == d
theorem zd_fst {M : List Dty} {Z : List (Dty × (Nat × Nat))} (hm : Z.map Prod.fst = M) (d : Int) : (zd Z d).map Prod.fst = dOn M d := by
  unfold zd dOn
  rw [← hm, List.filter_map]
  rfl
theorem zd_mem {Z : List (Dty × (Nat × Nat))} {d : Int} {e : Dty × (Nat × Nat)} (h : e ∈ zd Z d) : e ∈ Z ∧ e.1.d = d := by
  unfold zd at h
  rw [List.mem_filter] at h
  exact ⟨h.1, by simpa using h.2⟩
theorem row_at {U : List Ump} {x : Dty} {a : Nat} {y : Ump} (h : U[a]? = some y) (hm : mayB x y = true) : bG (rowM U x) a = true := by
  unfold bG rowM
  rw [List.getElem?_map, h]
  exact hm
theorem row_inv {U : List Ump} {x : Dty} {a : Nat} (h : bG (rowM U x) a = true) : ∃ y, U[a]? = some y ∧ mayB x y = true := by
  unfold bG rowM at h
  rw [List.getElem?_map] at h
  cases hy : U[a]? with
  | none => rw [hy] at h; cases h
  | some y => rw [hy] at h; exact ⟨y, rfl, h⟩
theorem rG_day {M : List Dty} {U : List Ump} {d : Int} {j : Nat} {x : Dty} (h : (dOn M d)[j]? = some x) : rG (mayD M U d) j = rowM U x := by
  unfold rG mayD
  rw [List.getElem?_map, h]; rfl
theorem bar2_at {us : List Int} {a b : Nat} (ha : uG us a = -1) (hb : uG us b = -1) (j : Nat) : uG (bar2 us a b) j = if j = b then -2 else if j = a then -2 else uG us j := by
  have hal := uG_lt (us := us) (u := a) (by rw [ha]; decide)
  have hbl := uG_lt (us := us) (u := b) (by rw [hb]; decide)
  unfold bar2
  rw [uG_set (us := us.set a (-2)) (u := b) (by simpa using hbl)]
  split
  · rfl
  · rw [uG_set hal]
theorem pairs_ok {U : List Ump} {may : List (List Bool)} : ∀ (T : List (Dty × (Nat × Nat))) (i : Nat) (us : List Int), (∀ j e, T[j]? = some e → rG may (i + j) = rowM U e.1) → (∀ e ∈ T, OkE U e ∧ uG us e.2.1 = -1 ∧ uG us e.2.2 = -1) → T.Pairwise (fun e f => dis e.2 f.2) → PairsOk may us i (T.map Prod.snd) := by
  intro T
  induction T with
  | nil => intro i us _ _ _; trivial
  | cons e T ih =>
    intro i us h1 h2 h3
    obtain ⟨⟨hlt, ⟨ya, ha1, ha2⟩, yb, hb1, hb2⟩, hua, hub⟩ := h2 e (by simp)
    have hr := h1 0 e rfl
    rw [Nat.add_zero] at hr
    rw [List.pairwise_cons] at h3
    refine ⟨⟨hlt, by rw [hr]; exact row_at ha1 ha2, by rw [hr]; exact row_at hb1 hb2, hua, hub⟩, ih (i + 1) _ (fun j f hf => ?_) (fun f hf => ?_) h3.2⟩
    · rw [show i + 1 + j = i + (j + 1) by omega]
      exact h1 (j + 1) f hf
    · obtain ⟨k1, k2, k3⟩ := h2 f (by simp [hf])
      obtain ⟨d1, d2, d3, d4⟩ := h3.1 f hf
      refine ⟨k1, ?_, ?_⟩
      · rw [bar2_at hua hub, if_neg (fun c => d3 c.symm), if_neg (fun c => d1 c.symm)]; exact k2
      · rw [bar2_at hua hub, if_neg (fun c => d4 c.symm), if_neg (fun c => d2 c.symm)]; exact k3
theorem pairs_inv {may : List (List Bool)} : ∀ (Q : List (Nat × Nat)) (i : Nat) (us : List Int), PairsOk may us i Q → (∀ j q, Q[j]? = some q → q.1 < q.2 ∧ bG (rG may (i + j)) q.1 = true ∧ bG (rG may (i + j)) q.2 = true ∧ uG us q.1 = -1 ∧ uG us q.2 = -1) ∧ Q.Pairwise dis := by
  intro Q
  induction Q with
  | nil => intro i us _; exact ⟨fun j q h => by simp at h, List.Pairwise.nil⟩
  | cons p Q ih =>
    intro i us h
    obtain ⟨hp, hq⟩ := h
    obtain ⟨k1, k2⟩ := ih (i + 1) _ hq
    have hb := bar2_at hp.fa hp.fb
    have hno : ∀ q ∈ Q, (uG us q.1 = -1 ∧ q.1 ≠ p.1 ∧ q.1 ≠ p.2) ∧ uG us q.2 = -1 ∧ q.2 ≠ p.1 ∧ q.2 ≠ p.2 := fun q hq => by
      obtain ⟨j, hj⟩ := List.getElem?_of_mem hq
      obtain ⟨_, _, _, c1, c2⟩ := k1 j q hj
      rw [hb] at c1 c2
      constructor
      · by_cases e1 : q.1 = p.2
        · rw [if_pos e1] at c1; cases c1
        · rw [if_neg e1] at c1
          by_cases e2 : q.1 = p.1
          · rw [if_pos e2] at c1; cases c1
          · rw [if_neg e2] at c1; exact ⟨c1, e2, e1⟩
      · by_cases e1 : q.2 = p.2
        · rw [if_pos e1] at c2; cases c2
        · rw [if_neg e1] at c2
          by_cases e2 : q.2 = p.1
          · rw [if_pos e2] at c2; cases c2
          · rw [if_neg e2] at c2; exact ⟨c2, e2, e1⟩
    refine ⟨fun j q hj => ?_, List.pairwise_cons.2 ⟨fun q hq => ?_, k2⟩⟩
    · cases j with
      | zero =>
        have e : p = q := by simpa using hj
        subst e
        exact ⟨hp.lt, hp.ma, hp.mb, hp.fa, hp.fb⟩
      | succ j =>
        have hj : Q[j]? = some q := by simpa using hj
        obtain ⟨c1, c2, c3, _, _⟩ := k1 j q hj
        obtain ⟨⟨c4, _⟩, c5, _⟩ := hno q (List.mem_of_getElem? hj)
        rw [show i + (j + 1) = i + 1 + j by omega]
        exact ⟨c1, c2, c3, c4, c5⟩
    · obtain ⟨⟨_, a1, a2⟩, _, b1, b2⟩ := hno q hq
      exact ⟨fun c => a1 c.symm, fun c => b1 c.symm, fun c => a2 c.symm, fun c => b2 c.symm⟩
theorem uG_rep {n u : Nat} (h : u < n) : uG (List.replicate n (-1)) u = -1 := by
  unfold uG
  rw [List.getElem?_replicate, if_pos h]; rfl
/-- A full appointment gives each day's pairs. -/
theorem day_pairs {M : List Dty} {U : List Ump} {Z : List (Dty × (Nat × Nat))} (hz : OkZ U Z) (hm : Z.map Prod.fst = M) (d : Int) : PairsOk (mayD M U d) (List.replicate U.length (-1)) 0 ((zd Z d).map Prod.snd) := by
  refine pairs_ok (U := U) (zd Z d) 0 _ (fun j e he => ?_) (fun e he => ?_) ?_
  · rw [Nat.zero_add]
    refine rG_day ?_
    rw [← zd_fst hm d, List.getElem?_map, he]; rfl
  · have h := hz.ok e (zd_mem he).1
    obtain ⟨ya, h1, _⟩ := h.a
    obtain ⟨yb, h2, _⟩ := h.b
    exact ⟨h, uG_rep (List.getElem?_eq_some_iff.1 h1).1, uG_rep (List.getElem?_eq_some_iff.1 h2).1⟩
  · refine List.Pairwise.imp_of_mem (fun {a b} ha hb hr => ?_) (List.Pairwise.filter (fun e => e.1.d == d) hz.ds)
    exact hr (by rw [(zd_mem ha).2, (zd_mem hb).2])
theorem zd_len {M : List Dty} {Z : List (Dty × (Nat × Nat))} (hm : Z.map Prod.fst = M) (d : Int) : ((zd Z d).map Prod.snd).length = (dOn M d).length := by
  rw [← zd_fst hm d, List.length_map, List.length_map]
theorem no_bad {M : List Dty} {U : List Ump} {Z : List (Dty × (Nat × Nat))} (hz : OkZ U Z) (hm : Z.map Prod.fst = M) : badD M U = none := by
  unfold badD
  rw [List.find?_eq_none]
  intro d _
  unfold badB lkD
  have hf := ext_feas (may := mayD M U d) (nm := (dOn M d).length) ((zd Z d).map Prod.snd) 0 (List.replicate U.length (-1)) _ (fresh_rep _) (NeedAt.start _) (by rw [zd_len hm]; omega) (day_pairs hz hm d)
  rw [(fill_iff (n := U.length) (by simp) (by simp) (fresh_rep U.length)).2 hf]
  simp
theorem pw_days {Z : List (Dty × (Nat × Nat))} {R : Dty × (Nat × Nat) → Dty × (Nat × Nat) → Prop} (h : ∀ d, (zd Z d).Pairwise R) : Z.Pairwise fun e f => e.1.d = f.1.d → R e f := by
  induction Z with
  | nil => exact List.Pairwise.nil
  | cons e Z ih =>
    refine List.pairwise_cons.2 ⟨fun f hf hd => ?_, ih fun d => ?_⟩
    · have h1 := h e.1.d
      unfold zd at h1
      rw [List.filter_cons_of_pos (by simp), List.pairwise_cons] at h1
      exact h1.1 f (List.mem_filter.2 ⟨hf, by simpa using hd.symm⟩)
    · have h1 := h d
      unfold zd at h1 ⊢
      rw [List.filter_cons] at h1
      split at h1
      · exact (List.pairwise_cons.1 h1).2
      · exact h1
def prN (M : List Dty) (U : List Ump) (x : Dty) : Nat × Nat := ((pairF M U x.m).1.toNat, (pairF M U x.m).2.toNat)
def zApp (M : List Dty) (U : List Ump) : List (Dty × (Nat × Nat)) := M.map fun x => (x, prN M U x)
theorem on_mem {M : List Dty} {d : Int} {x : Dty} (h : x ∈ dOn M d) : x ∈ M ∧ x.d = d := by
  unfold dOn at h
  rw [List.mem_filter] at h
  exact ⟨h.1, by simpa using h.2⟩
theorem on_pair {M : List Dty} {U : List Ump} (h : CkOk M U) (d : Int) : (dOn M d).Pairwise fun x y => x.m < y.m := List.Pairwise.filter _ (dt_pair h)
theorem on_idx {M : List Dty} {U : List Ump} (h : CkOk M U) {d : Int} {i j : Nat} {x y : Dty} (hi : (dOn M d)[i]? = some x) (hj : (dOn M d)[j]? = some y) (e : x.m = y.m) : i = j := by
  have hp := List.pairwise_iff_getElem.1 (on_pair h d)
  obtain ⟨h1, h2⟩ := List.getElem?_eq_some_iff.1 hi
  obtain ⟨h3, h4⟩ := List.getElem?_eq_some_iff.1 hj
  rcases Nat.lt_trichotomy i j with k | k | k
  · have := hp i j h1 h3 k; rw [h2, h4] at this; omega
  · exact k
  · have := hp j i h3 h1 k; rw [h2, h4] at this; omega
theorem day_prs {M : List Dty} {U : List Ump} (hk : CkOk M U) (h : badD M U = none) {d : Int} (hd : dOn M d ≠ []) : pairsD M U d = (dOn M d).map fun x => pairF M U x.m := by
  obtain ⟨P, e1, e2, _⟩ := pair_day h hd
  have hlen : (pairsD M U d).length = (dOn M d).length := by rw [e1, List.length_map, e2]
  apply List.ext_getElem?
  intro j
  by_cases hj : j < (dOn M d).length
  · obtain ⟨x, hx⟩ : ∃ x, (dOn M d)[j]? = some x := ⟨_, List.getElem?_eq_getElem hj⟩
    obtain ⟨v, hv⟩ : ∃ v, (pairsD M U d)[j]? = some v := ⟨_, List.getElem?_eq_getElem (by omega)⟩
    have hxm := List.mem_of_getElem? hx
    rw [List.getElem?_map, hx, hv]
    show some v = some (pairF M U x.m)
    have hz : (((dOn M d).map Dty.m).zip (pairsD M U d))[j]? = some (x.m, v) := List.getElem?_zip_eq_some.2 ⟨by rw [List.getElem?_map, hx]; rfl, hv⟩
    have hex : ∃ e ∈ pairL M U (sortL (daysL M)), e.1 = x.m := ⟨_, List.mem_flatMap.2 ⟨d, (sortL_mem _ _).2 ((days_mem M _).2 hd), List.mem_of_getElem? hz⟩, rfl⟩
    obtain ⟨e, he, hem, hpe⟩ := putAll_mem (fun _ => (0, 0)) x.m _ hex
    obtain ⟨d', hd', hed⟩ := List.mem_flatMap.1 he
    obtain ⟨j', hj'⟩ := List.getElem?_of_mem hed
    obtain ⟨k1, k2⟩ := List.getElem?_zip_eq_some.1 hj'
    rw [List.getElem?_map, Option.map_eq_some_iff] at k1
    obtain ⟨y, hy, hym⟩ := k1
    have hyM := on_mem (List.mem_of_getElem? hy)
    have hxM := on_mem hxm
    have exy : y = x := dt_uniq hk hyM.1 hxM.1 (by rw [hym, hem])
    subst exy
    have edd : d' = d := by rw [← hyM.2, hxM.2]
    subst edd
    have ejj := on_idx hk hy hx rfl
    subst ejj
    rw [hv] at k2
    unfold pairF
    rw [hpe, Option.some.inj k2]
  · rw [List.getElem?_eq_none (by omega), List.getElem?_eq_none (by simp; omega)]
theorem zd_app (M : List Dty) (U : List Ump) (d : Int) : zd (zApp M U) d = (dOn M d).map fun x => (x, prN M U x) := by
  unfold zd zApp dOn
  rw [List.filter_map]
  rfl
/-- The pairs of a day, as they stand in the whole appointment. -/
theorem day_app {M : List Dty} {U : List Ump} (hk : CkOk M U) (h : badD M U = none) (d : Int) :
    PairsOk (mayD M U d) (List.replicate U.length (-1)) 0 ((zd (zApp M U) d).map Prod.snd) ∧ (∀ x ∈ dOn M d, pairF M U x.m = castP (prN M U x)) ∧
      ∀ Q, Q.length = (dOn M d).length → PairsOk (mayD M U d) (List.replicate U.length (-1)) 0 Q → ∀ (j : Nat) (p q : Nat × Nat), ((zd (zApp M U) d).map Prod.snd).take j = Q.take j → ((zd (zApp M U) d).map Prod.snd)[j]? = some p → Q[j]? = some q → p.1 < q.1 ∨ p.1 = q.1 ∧ p.2 ≤ q.2 := by
  by_cases hd : dOn M d = []
  · rw [zd_app, hd]
    exact ⟨trivial, fun x hx => by simp at hx, fun Q _ _ j p q _ hp => by simp at hp⟩
  · obtain ⟨P, e1, e2, e3, e4, e5⟩ := pair_day h hd
    rw [day_prs hk h hd] at e1
    have hP : P = (zd (zApp M U) d).map Prod.snd := by
      rw [zd_app, List.map_map]
      apply List.ext_getElem?
      intro j
      have h1 := congrArg (fun l => l[j]?) e1
      simp only [List.getElem?_map] at h1 ⊢
      cases hj : (dOn M d)[j]? with
      | none => rw [hj] at h1; cases hp : P[j]? with
        | none => rfl
        | some p => rw [hp] at h1; cases h1
      | some x =>
        rw [hj] at h1
        cases hp : P[j]? with
        | none => rw [hp] at h1; cases h1
        | some p =>
          rw [hp] at h1
          have h2 : pairF M U x.m = castP p := by simpa using h1
          show some p = some (prN M U x)
          unfold prN
          rw [h2]
          simp [castP]
    rw [← hP]
    refine ⟨e3, fun x hx => ?_, e5⟩
    obtain ⟨j, hj⟩ := List.getElem?_of_mem hx
    have h1 := congrArg (fun l => l[j]?) e1
    simp only [List.getElem?_map, hj] at h1
    cases hp : P[j]? with
    | none => rw [hp] at h1; cases h1
    | some p =>
      rw [hp] at h1
      have h2 : pairF M U x.m = castP p := by simpa using h1
      unfold prN
      rw [h2]
      simp [castP]
theorem app_ok {M : List Dty} {U : List Ump} (hk : CkOk M U) (h : badD M U = none) : OkZ U (zApp M U) ∧ (zApp M U).map Prod.fst = M ∧ M.map (outE M U) = (zApp M U).map (zE U) := by
  have hin : ∀ x ∈ M, x ∈ dOn M x.d := fun x hx => by unfold dOn; rw [List.mem_filter]; exact ⟨hx, by simp⟩
  refine ⟨⟨fun e he => ?_, pw_days fun d => ?_⟩, ?_, ?_⟩
  · unfold zApp at he
    obtain ⟨x, hx, rfl⟩ := List.mem_map.1 he
    obtain ⟨h1, _, _⟩ := day_app hk h x.d
    obtain ⟨j, hj⟩ := List.getElem?_of_mem (hin x hx)
    obtain ⟨c1, c2, c3, _, _⟩ := (pairs_inv _ 0 _ h1).1 j (prN M U x) (by rw [zd_app, List.map_map, List.getElem?_map, hj]; rfl)
    rw [Nat.zero_add, rG_day hj] at c2 c3
    exact ⟨c1, row_inv c2, row_inv c3⟩
  · have h1 := (pairs_inv _ 0 _ (day_app hk h d).1).2
    rw [List.pairwise_map] at h1
    exact h1
  · unfold zApp
    rw [List.map_map]
    exact List.map_id M
  · unfold zApp
    rw [List.map_map]
    refine List.map_congr_left fun x hx => ?_
    have h1 := (day_app hk h x.d).2.1 x (hin x hx)
    show outE M U x = zE U (x, prN M U x)
    unfold outE zE
    rw [h1]
    rfl
theorem zd_split (Z : List (Dty × (Nat × Nat))) (k : Nat) (d : Int) {e : Dty × (Nat × Nat)} (he : Z[k]? = some e) (hd : e.1.d = d) : zd Z d = zd (Z.take k) d ++ e :: zd (Z.drop (k + 1)) d := by
  obtain ⟨hk, rfl⟩ := List.getElem?_eq_some_iff.1 he
  unfold zd
  conv => lhs; rw [← List.take_append_drop k Z, List.filter_append, List.drop_eq_getElem_cons hk]
  rw [List.filter_cons_of_pos (by simpa using hd)]
/-- The appointment is the least one. -/
theorem app_least {M : List Dty} {U : List Ump} {Z : List (Dty × (Nat × Nat))} (hk : CkOk M U) (h : badD M U = none) (hz : OkZ U Z) (hm : Z.map Prod.fst = M) {k : Nat} {e f : Dty × (Nat × Nat)} (ht : (zApp M U).take k = Z.take k) (he : (zApp M U)[k]? = some e) (hf : Z[k]? = some f) : e.1 = f.1 ∧ (e.2.1 < f.2.1 ∨ e.2.1 = f.2.1 ∧ e.2.2 ≤ f.2.2) := by
  have hfst := (app_ok hk h).2.1
  have e1 : M[k]? = some e.1 := by rw [← hfst, List.getElem?_map, he]; rfl
  have e2 : M[k]? = some f.1 := by rw [← hm, List.getElem?_map, hf]; rfl
  have e3 : e.1 = f.1 := by rw [e1] at e2; exact Option.some.inj e2
  refine ⟨e3, ?_⟩
  obtain ⟨_, _, h3⟩ := day_app hk h e.1.d
  have s1 := zd_split (zApp M U) k e.1.d he rfl
  have s2 := zd_split Z k e.1.d hf (by rw [e3])
  refine h3 ((zd Z e.1.d).map Prod.snd) (zd_len hm _) (day_pairs hz hm _) (zd (Z.take k) e.1.d).length e.2 f.2 ?_ ?_ ?_
  · rw [s1, s2, ht, List.map_append, List.map_append, List.take_append_of_le_length (by simp), List.take_append_of_le_length (by simp)]
  · rw [s1, ht, List.getElem?_map, List.getElem?_append_right (Nat.le_refl _)]; simp
  · rw [s2, List.getElem?_map, List.getElem?_append_right (Nat.le_refl _)]; simp

theorem ck_ok' {M : List Dty} {U : List Ump} (h : ckA M U = 0) : CkOk M U := ck_ok h
/-! Numbers in ascending order -/
theorem bad_zero {N : List Int} (h : N.Pairwise (· < ·)) : ∀ k, k < N.length → badN N k = 0 := by
  intro k hk
  unfold badN
  rw [List.getElem?_eq_getElem hk]
  dsimp only
  cases k with
  | zero => rfl
  | succ k =>
    have := List.pairwise_iff_getElem.1 h k (k + 1) (by omega) hk (by omega)
    have e : befN N (k + 1) N[k + 1] = false := by
      simp [befN, List.getElem?_eq_getElem (show k < N.length by omega)]
      omega
    rw [e]
    rfl
theorem bad_asc {N : List Int} (h : ∀ k, k < N.length → badN N k = 0) : N.Pairwise (· < ·) := by
  have h1 : ∀ (n i : Nat) (x y : Int), N[i]? = some x → N[i + 1 + n]? = some y → x < y := by
    have h0 : ∀ (i : Nat) (x y : Int), N[i]? = some x → N[i + 1]? = some y → x < y := fun i x y hx hy => by
      have h2 := h (i + 1) (List.getElem?_eq_some_iff.1 hy).1
      unfold badN at h2
      rw [hy] at h2
      dsimp only at h2
      by_cases hle : y ≤ x
      · have e : befN N (i + 1) y = true := by simp [befN, hx, hle]
        rw [e] at h2
        cases h2
      · omega
    intro n
    induction n with
    | zero => intro i x y hx hy; exact h0 i x y hx hy
    | succ n ih =>
      intro i x y hx hy
      have hl := (List.getElem?_eq_some_iff.1 hy).1
      obtain ⟨z, hz⟩ : ∃ z, N[i + 1 + n]? = some z := ⟨_, List.getElem?_eq_getElem (by omega)⟩
      have := ih i x z hx hz
      have := h0 (i + 1 + n) z y hz hy
      omega
  refine List.pairwise_iff_getElem.2 fun i j hi hj hij => ?_
  exact h1 (j - i - 1) i _ _ (List.getElem?_eq_getElem hi) (by rw [show i + 1 + (j - i - 1) = j by omega]; exact List.getElem?_eq_getElem hj)
theorem kof_of {M : List Dty} {U : List Ump} (h : CkOk M U) {x : Dty} (hx : x ∈ M) : ¬ kof M x.m < 0 ∧ dat M x.m = x := by
  obtain ⟨i, hi⟩ := List.getElem?_of_mem hx
  have h1 : kof M x.m = i := fidx_some hi (by simp) (fun j y hj hy => by have := dt_lt h hj hy hi; simp; omega)
  refine ⟨by omega, ?_⟩
  unfold dat
  rw [h1, Int.toNat_natCast, hi]
theorem countP_rng {α : Type} (l : List α) (p : α → Bool) : l.countP p = (List.range l.length).countP fun u => (l[u]?.map p).getD false := by
  have h1 : l.map p = (List.range l.length).map fun u => (l[u]?.map p).getD false := by
    apply List.ext_getElem?
    intro i
    by_cases hi : i < l.length
    · rw [List.getElem?_map, List.getElem?_eq_getElem hi, List.getElem?_map, List.getElem?_eq_getElem (by simpa using hi)]
      simp [hi]
    · rw [List.getElem?_eq_none (by simp; omega), List.getElem?_eq_none (by simp; omega)]
  have h2 : l.countP p = (l.map p).countP id := by rw [List.countP_map]; rfl
  rw [h2, h1, List.countP_map]
  rfl
theorem clear_rep (n : Nat) : Clear (List.replicate n (-1)) := fun u hu => uG_rep (by simpa using hu)
theorem row_lt {M : List Dty} {U : List Ump} {d : Int} {x u : Nat} (h : bG (rG (mayD M U d) x) u = true) : u < U.length := by
  have h1 := bG_lt h
  unfold rG mayD at h1
  rw [List.getElem?_map] at h1
  cases hx : (dOn M d)[x]? with
  | none => rw [hx] at h1; simp at h1
  | some y => rw [hx] at h1; simpa [rowM] using h1
theorem ref_of {M : List Dty} {U : List Ump} {d : Int} (hc : ckA M U = 0) (h : badD M U = some d) : refF M U (numsD M U d) = 0 := by
  have hk := ck_ok hc
  have hb := List.find?_some (show (sortL (daysL M)).find? (badB M U) = some d from h)
  unfold badB at hb
  have hlk : (lkD M U d).1 ≠ [] := fun e => by rw [e] at hb; simp at hb
  have hdef := lack_def (may := mayD M U d) (nm := (dOn M d).length) (n := U.length) (us0 := List.replicate U.length (-1)) (by simp) (clear_rep _) (fun x u hx => by simpa using row_lt hx) hlk
  rw [List.length_replicate] at hdef
  obtain ⟨D, hD⟩ : ∃ D, dOn M d = D := ⟨_, rfl⟩
  obtain ⟨inn, hinn⟩ : ∃ inn, lackF (mayD M U d) (lkD M U d).2 (dOn M d).length (lkD M U d).1 = inn := ⟨_, rfl⟩
  have hpos : ableN (mayD M U d) U.length (outI inn D.length) < 2 * (outI inn D.length).length := by
    have := hdef.pos
    rw [← hinn, ← hD]
    exact this
  have hN : numsD M U d = (outI inn D.length).map (numAt D) := by unfold numsD; rw [hinn, hD]
  rw [hN]
  have hout : ∀ i ∈ outI inn D.length, ∃ x, D[i]? = some x ∧ x ∈ M ∧ x.d = d ∧ numAt D i = x.m := fun i hi => by
    unfold outI at hi
    rw [List.mem_filter, List.mem_range] at hi
    obtain ⟨x, hx⟩ : ∃ x, D[i]? = some x := ⟨_, List.getElem?_eq_getElem hi.1⟩
    have hxm := on_mem (M := M) (d := d) (x := x) (by rw [hD]; exact List.mem_of_getElem? hx)
    exact ⟨x, hx, hxm.1, hxm.2, by unfold numAt; rw [hx]; rfl⟩
  have hasc : ((outI inn D.length).map (numAt D)).Pairwise (· < ·) := by
    rw [List.pairwise_map]
    have h1 : (outI inn D.length).Pairwise (· < ·) := List.Pairwise.filter _ List.pairwise_lt_range
    refine List.Pairwise.imp_of_mem (fun {a b} ha hb hr => ?_) h1
    obtain ⟨x, x1, _, _, x4⟩ := hout a ha
    obtain ⟨y, y1, _, _, y4⟩ := hout b hb
    rw [x4, y4]
    have hp := List.pairwise_iff_getElem.1 (on_pair hk d)
    rw [hD] at hp
    have := hp a b (List.getElem?_eq_some_iff.1 x1).1 (List.getElem?_eq_some_iff.1 y1).1 hr
    rwa [(List.getElem?_eq_some_iff.1 x1).2, (List.getElem?_eq_some_iff.1 y1).2] at this
  obtain ⟨O, hO⟩ : ∃ O, outI inn D.length = O := ⟨_, rfl⟩
  rw [hO] at hpos hout hasc ⊢
  have hset : ∀ i ∈ O, ∃ x, D[i]? = some x ∧ dat M (numAt D i) = x ∧ x.d = d ∧ ¬ kof M (numAt D i) < 0 := fun i hi => by
    obtain ⟨x, x1, x2, x3, x4⟩ := hout i hi
    rw [x4]
    exact ⟨x, x1, (kof_of hk x2).2, x3, (kof_of hk x2).1⟩
  unfold refF
  rw [hc, thenR_zero]
  unfold rf1
  rw [if_neg (by rw [List.length_map]; omega)]
  unfold rf2
  rw [res_done (bad_zero hasc)]
  unfold rf3
  have hat : ∀ j, j < (O.map (numAt D)).length → ∃ i ∈ O, (O.map (numAt D))[j]? = some (numAt D i) := fun j hj => by
    rw [List.length_map] at hj
    exact ⟨O[j], List.getElem_mem hj, by rw [List.getElem?_map, List.getElem?_eq_getElem hj]; rfl⟩
  rw [res_done (fun j hj => by
    obtain ⟨i, hi, e⟩ := hat j hj
    obtain ⟨x, _, _, _, h4⟩ := hset i hi
    rw [nf_of e, if_neg h4])]
  unfold rf4
  have hday : ∀ (j : Nat) (x : Dty), (setN M (O.map (numAt D)))[j]? = some x → x.d = d := fun j x hx => by
    have hj := (List.getElem?_eq_some_iff.1 hx).1
    rw [setN_len] at hj
    obtain ⟨i, hi, e⟩ := hat j hj
    rw [setN_at e] at hx
    obtain ⟨y, _, h2, h3, _⟩ := hset i hi
    rw [← Option.some.inj hx, h2, h3]
  rw [res_done (fun j hj => by
    unfold tmN
    cases h1 : (setN M (O.map (numAt D)))[j]? with
    | none => rfl
    | some x =>
      cases h2 : (setN M (O.map (numAt D)))[0]? with
      | none => rfl
      | some y => dsimp only; rw [if_pos (by rw [hday j x h1, hday 0 y h2])])]
  unfold rf5
  have hab : ableF (setN M (O.map (numAt D))) U = ableN (mayD M U d) U.length O := by
    unfold ableF ableN
    rw [countP_rng]
    refine List.countP_congr fun u hu => ?_
    have hul := List.mem_range.1 hu
    rw [List.getElem?_eq_getElem hul]
    show ((setN M (O.map (numAt D))).any fun x => mayB x U[u]) = true ↔ _
    rw [List.any_eq_true, List.any_eq_true]
    constructor
    · rintro ⟨x, hx, hm⟩
      unfold setN at hx
      rw [List.map_map] at hx
      obtain ⟨i, hi, rfl⟩ := List.mem_map.1 hx
      obtain ⟨y, h1, h2, _⟩ := hset i hi
      refine ⟨i, hi, ?_⟩
      rw [rG_day (by rw [hD]; exact h1)]
      exact row_at (List.getElem?_eq_getElem hul) (by rw [← h2]; exact hm)
    · rintro ⟨i, hi, hm⟩
      obtain ⟨y, h1, h2, _⟩ := hset i hi
      rw [rG_day (by rw [hD]; exact h1)] at hm
      obtain ⟨z, z1, z2⟩ := row_inv hm
      rw [List.getElem?_eq_getElem hul] at z1
      refine ⟨y, ?_, by rw [Option.some.inj z1]; exact z2⟩
      unfold setN
      rw [List.map_map]
      exact List.mem_map.2 ⟨i, hi, h2⟩
  rw [hab, setN_len, List.length_map, if_neg (by omega)]
/-! No set refutes beside a full appointment -/
theorem len_le {α : Type} : ∀ (l m : List α), l.Nodup → (∀ x ∈ l, x ∈ m) → l.length ≤ m.length := by
  intro l
  induction l with
  | nil => intro m _ _; simp
  | cons a l ih =>
    intro m hn hs
    rw [List.nodup_cons] at hn
    obtain ⟨s, t, rfl⟩ := List.append_of_mem (hs a (by simp))
    have := ih (s ++ t) hn.2 (fun x hx => by
      have h1 := hs x (by simp [hx])
      rw [List.mem_append, List.mem_cons] at h1
      rw [List.mem_append]
      rcases h1 with k | k | k
      · exact Or.inl k
      · subst k; exact (hn.1 hx).elim
      · exact Or.inr k)
    simp at this ⊢
    omega
theorem dis_comm {p q : Nat × Nat} (h : dis p q) : dis q p := ⟨fun c => h.1 c.symm, fun c => h.2.2.1 c.symm, fun c => h.2.1 c.symm, fun c => h.2.2.2 c.symm⟩
theorem no_ref {M : List Dty} {U : List Ump} {Z : List (Dty × (Nat × Nat))} (hz : OkZ U Z) (hm : Z.map Prod.fst = M) (N : List Int) : refF M U N ≠ 0 := by
  intro h
  unfold refF at h
  obtain ⟨hc, h1⟩ := then_zero h
  have hk := ck_ok hc
  unfold rf1 at h1
  split at h1
  · cases h1
  · rename_i hne
    unfold rf2 at h1
    obtain ⟨h2, h3⟩ := then_zero h1
    have hasc := bad_asc (res_zero h2)
    unfold rf3 at h3
    obtain ⟨h4, h5⟩ := then_zero h3
    have hnf := res_zero h4
    unfold rf4 at h5
    obtain ⟨h6, h7⟩ := then_zero h5
    have htm := res_zero h6
    unfold rf5 at h7
    split at h7
    · cases h7
    · rename_i hlt
      have hin : ∀ n ∈ N, dat M n ∈ M ∧ (dat M n).m = n := fun n hn => by
        obtain ⟨j, hj⟩ := List.getElem?_of_mem hn
        have := hnf j (List.getElem?_eq_some_iff.1 hj).1
        rw [nf_of hj] at this
        split at this
        · cases this
        · rename_i hkof
          obtain ⟨i, e1, e2⟩ := kof_at hkof
          refine ⟨List.mem_of_getElem? e2, ?_⟩
          obtain ⟨i', x, f1, f2, f3⟩ := fidx_at (show 0 ≤ fidx (fun x : Dty => x.m == n) M by unfold kof at hkof; omega)
          have : i' = i := by unfold kof at e1; omega
          subst this
          rw [e2] at f2
          rw [Option.some.inj f2]
          simpa using f3
      have hSm : ∀ x ∈ setN M N, x ∈ M := fun x hx => by
        unfold setN at hx
        obtain ⟨n, hn, rfl⟩ := List.mem_map.1 hx
        exact (hin n hn).1
      have hSd : (setN M N).Pairwise fun x y => x.m < y.m := by
        unfold setN
        rw [List.pairwise_map]
        refine List.Pairwise.imp_of_mem (fun {a b} ha hb hr => ?_) hasc
        rw [(hin a ha).2, (hin b hb).2]
        exact hr
      have hday : ∀ x ∈ setN M N, ∀ y ∈ setN M N, x.d = y.d := by
        have h0 : ∀ x ∈ setN M N, ∀ z, (setN M N)[0]? = some z → x.d = z.d := fun x hx z hz => by
          obtain ⟨j, hj⟩ := List.getElem?_of_mem hx
          have := htm j (List.getElem?_eq_some_iff.1 hj).1
          unfold tmN at this
          rw [hj, hz] at this
          dsimp only at this
          split at this
          · assumption
          · cases this
        intro x hx y hy
        have hl : 0 < (setN M N).length := List.length_pos_of_mem hx
        rw [h0 x hx _ (List.getElem?_eq_getElem hl), h0 y hy _ (List.getElem?_eq_getElem hl)]
      obtain ⟨S, hS⟩ : ∃ S, setN M N = S := ⟨_, rfl⟩
      rw [hS] at hlt hSm hSd hday
      obtain ⟨f, hf⟩ : ∃ f : Dty → Nat × Nat, ∀ x ∈ M, (x, f x) ∈ Z := by
        refine ⟨fun x => ((Z.find? fun e => e.1.m == x.m).map Prod.snd).getD (0, 0), fun x hx => ?_⟩
        rw [← hm] at hx
        obtain ⟨e, he, hex⟩ := List.mem_map.1 hx
        cases hfi : Z.find? fun e => e.1.m == x.m with
        | none =>
          rw [List.find?_eq_none] at hfi
          have := hfi e he
          rw [hex] at this
          simp at this
        | some g =>
          have g1 := List.find?_some hfi
          have g2 := List.mem_of_find?_eq_some hfi
          have g3 : g.1 = x := dt_uniq hk (by rw [← hm]; exact List.mem_map.2 ⟨g, g2, rfl⟩) (by rw [← hm]; exact hx) (by simpa using g1)
          show (x, ((Z.find? fun e => e.1.m == x.m).map Prod.snd).getD (0, 0)) ∈ Z
          rw [hfi]
          show (x, g.2) ∈ Z
          rw [← g3]
          exact g2
      have hdis : ∀ x ∈ S, ∀ y ∈ S, x.m < y.m → dis (f x) (f y) := fun x hx y hy hxy => by
        obtain ⟨i, hi⟩ := List.getElem?_of_mem (hf x (hSm x hx))
        obtain ⟨j, hj⟩ := List.getElem?_of_mem (hf y (hSm y hy))
        obtain ⟨i1, i2⟩ := List.getElem?_eq_some_iff.1 hi
        obtain ⟨j1, j2⟩ := List.getElem?_eq_some_iff.1 hj
        rcases Nat.lt_trichotomy i j with k | k | k
        · have := List.pairwise_iff_getElem.1 hz.ds i j i1 j1 k
          rw [i2, j2] at this
          exact this (hday x hx y hy)
        · subst k
          rw [hi] at hj
          have := congrArg Prod.fst (Option.some.inj hj)
          dsimp only at this
          rw [this] at hxy
          omega
        · have := List.pairwise_iff_getElem.1 hz.ds j i j1 i1 k
          rw [i2, j2] at this
          exact dis_comm (this (hday y hy x hx))
      have hnd : (S.flatMap fun x => [(f x).1, (f x).2]).Nodup := by
        unfold List.Nodup
        rw [List.pairwise_flatMap]
        refine ⟨fun x hx => ?_, List.Pairwise.imp_of_mem (fun {a b} ha hb hr => ?_) hSd⟩
        · have := (hz.ok _ (hf x (hSm x hx))).lt
          simp
          dsimp only at this
          omega
        · obtain ⟨d1, d2, d3, d4⟩ := hdis a ha b hb hr
          intro u hu v hv
          simp at hu hv
          rcases hu with rfl | rfl <;> rcases hv with rfl | rfl <;> assumption
      have hle := len_le _ ((List.range U.length).filter fun u => (U[u]?.map fun y => S.any fun x => mayB x y).getD false) hnd (fun u hu => by
        rw [List.mem_flatMap] at hu
        obtain ⟨x, hx, hu⟩ := hu
        obtain ⟨_, ⟨ya, a1, a2⟩, yb, b1, b2⟩ := hz.ok _ (hf x (hSm x hx))
        rw [List.mem_filter, List.mem_range]
        simp at hu
        rcases hu with rfl | rfl
        · refine ⟨(List.getElem?_eq_some_iff.1 a1).1, ?_⟩
          rw [a1]
          exact List.any_eq_true.2 ⟨x, hx, a2⟩
        · refine ⟨(List.getElem?_eq_some_iff.1 b1).1, ?_⟩
          rw [b1]
          exact List.any_eq_true.2 ⟨x, hx, b2⟩)
      have hfl : ∀ T : List Dty, (T.flatMap fun x => [(f x).1, (f x).2]).length = 2 * T.length := by
        intro T
        induction T with
        | nil => rfl
        | cons a T ih => simp only [List.flatMap_cons, List.length_append, ih, List.length_cons, List.length_nil]; omega
      rw [hfl, ← List.countP_eq_length_filter, ← countP_rng] at hle
      exact hlt hle
/-! One more umpire -/
def lessU (U : List Ump) (k : Nat) : List Ump := U.take k ++ U.drop (k + 1)
def upI (k i : Nat) : Nat := if i < k then i else i + 1
theorem less_at {U : List Ump} {k : Nat} (hk : k < U.length) (i : Nat) : (lessU U k)[i]? = U[upI k i]? := by
  unfold lessU upI
  by_cases h : i < k
  · rw [if_pos h, List.getElem?_append_left (by simp; omega), List.getElem?_take, if_pos h]
  · rw [if_neg h, List.getElem?_append_right (by simp; omega), List.getElem?_drop]
    congr 1
    simp
    omega
theorem up_inj {k i j : Nat} (h : i ≠ j) : upI k i ≠ upI k j := by
  unfold upI
  split <;> split <;> omega
theorem more_ok {U : List Ump} {k : Nat} {Z : List (Dty × (Nat × Nat))} (hk : k < U.length) (hz : OkZ (lessU U k) Z) : OkZ U (Z.map fun e => (e.1, (upI k e.2.1, upI k e.2.2))) := by
  refine ⟨fun e he => ?_, ?_⟩
  · obtain ⟨e, hm, rfl⟩ := List.mem_map.1 he
    obtain ⟨h1, ⟨ya, a1, a2⟩, yb, b1, b2⟩ := hz.ok e hm
    rw [less_at hk] at a1 b1
    refine ⟨?_, ⟨ya, a1, a2⟩, yb, b1, b2⟩
    show upI k e.2.1 < upI k e.2.2
    unfold upI
    split <;> split <;> omega
  · rw [List.pairwise_map]
    refine hz.ds.imp fun {a b} h hd => ?_
    obtain ⟨h1, h2, h3, h4⟩ := h hd
    exact ⟨up_inj h1, up_inj h2, up_inj h3, up_inj h4⟩
theorem more_law {M : List Dty} {U : List Ump} {k : Nat} (hk : k < U.length) (h : (appR M (lessU U k)).2.2 = 0) : (appR M U).2.2 = 0 ∨ ckA M U = (appR M U).2.2 := by
  by_cases hc : ckA M U = 0
  · left
    unfold appR at h
    split at h
    · rename_i hn; exact (hn h).elim
    · rename_i hn
      have hn : ckA M (lessU U k) = 0 := by simpa using hn
      cases hb : badD M (lessU U k) with
      | some d => rw [hb] at h; cases h
      | none =>
        obtain ⟨h1, h2, _⟩ := app_ok (ck_ok hn) hb
        have h3 := no_bad (more_ok hk h1) (M := M) (by rw [List.map_map]; exact h2)
        unfold appR
        rw [if_neg (by simpa using hc), h3]
  · right
    unfold appR
    rw [if_pos hc]
/-! What the laws say -/
theorem res_ne {f : Nat → Int} {n : Nat} {c : Int} (hc : c ≠ 0) (h : ∀ j, j < n → f j ≠ c) : resW f (scan f n) ≠ c := by
  intro e
  cases hs : scan f n with
  | none => rw [hs] at e; exact hc e.symm
  | some k =>
    have hk : k < n := Classical.byContradiction fun hn => by
      have : scan f n = none ∨ scan f n ≠ none := Classical.em _
      have h0 : ∀ m, (∀ j, scan f m = some j → j < m) := by
        intro m
        induction m with
        | zero => intro j hj; cases hj
        | succ m ih =>
          intro j hj
          unfold scan at hj
          cases h1 : scan f m with
          | none =>
            rw [h1] at hj
            dsimp only at hj
            split at hj
            · cases hj
            · have := Option.some.inj hj; omega
          | some i =>
            rw [h1] at hj
            have := Option.some.inj hj
            have := ih i h1
            omega
      exact hn (h0 n k hs)
    rw [hs] at e
    exact h k hk e
theorem ck_ne (M : List Dty) (U : List Ump) : ckA M U ≠ 13 := by
  have h1 : ckD M ≠ 13 := res_ne (by decide) fun j hj => by
    unfold dErr
    split
    · unfold errD; repeat' split
      all_goals decide
    · decide
  have h2 : ckU U ≠ 13 := res_ne (by decide) fun j hj => by
    unfold uErr
    split
    · unfold errU
      split
      · decide
      · split
        · decide
        · split
          · decide
          · refine res_ne (by decide) fun i hi => ?_
            unfold nErr
            split
            · repeat' split
              all_goals decide
            · decide
    · decide
  unfold ckA
  split
  · decide
  · split
    · exact h1
    · exact h2
theorem proves_law (M : List Dty) (U : List Ump) : ((appR M U).2.2 = 0 → (appR M U).2.1 = [] ∧ accF M U (appR M U).1 = 0) ∧ ((appR M U).2.2 = 13 → (appR M U).1 = [] ∧ refF M U (appR M U).2.1 = 0) ∧ ((appR M U).2.2 ≠ 0 → (appR M U).2.2 ≠ 13 → ckA M U = (appR M U).2.2 ∧ (appR M U).1 = [] ∧ (appR M U).2.1 = []) := by
  unfold appR
  by_cases hc : ckA M U = 0
  · rw [if_neg (by simpa using hc)]
    cases hb : badD M U with
    | some d => exact ⟨fun h => (by cases h), fun _ => ⟨rfl, ref_of hc hb⟩, fun _ h => (h rfl).elim⟩
    | none =>
      obtain ⟨h1, h2, h3⟩ := app_ok (ck_ok hc) hb
      refine ⟨fun _ => ⟨rfl, ?_⟩, fun h => (by cases h), fun h => (h rfl).elim⟩
      show accF M U (M.map (outE M U)) = 0
      rw [h3]
      exact acc_of hc h1 h2
  · rw [if_pos hc]
    exact ⟨fun h => (hc h).elim, fun h => (ck_ne M U h).elim, fun _ _ => ⟨rfl, rfl, rfl⟩⟩
theorem sound_law {M : List Dty} {U : List Ump} {L : List Apd} (h : accF M U L = 0) : (appR M U).2.2 = 0 ∧ (∀ N, refF M U N ≠ 0) ∧ (appR M U).1.length = L.length ∧ ∀ (k : Nat) (z y : Apd), (appR M U).1.take k = L.take k → (appR M U).1[k]? = some z → L[k]? = some y → z ≠ y → slt z.one y.one = true ∨ z.one = y.one ∧ slt z.two y.two = true := by
  obtain ⟨hc, Z, hz, hm, rfl⟩ := acc_inv h
  have hk := ck_ok hc
  have hb := no_bad hz hm
  obtain ⟨h1, h2, h3⟩ := app_ok hk hb
  have hap : appR M U = ((zApp M U).map (zE U), [], 0) := by
    unfold appR
    rw [if_neg (by simpa using hc), hb]
    dsimp only
    rw [h3]
  rw [hap]
  dsimp only
  refine ⟨rfl, no_ref hz hm, ?_, ?_⟩
  · have e1 : (zApp M U).length = M.length := by unfold zApp; rw [List.length_map]
    have e2 : Z.length = M.length := by rw [← hm, List.length_map]
    rw [List.length_map, List.length_map, e1, e2]
  · intro k z y ht hzk hyk hne
    rw [List.getElem?_map, Option.map_eq_some_iff] at hzk hyk
    obtain ⟨e, he, rfl⟩ := hzk
    obtain ⟨f, hf, rfl⟩ := hyk
    have htk : (zApp M U).take k = Z.take k := by
      apply List.ext_getElem?
      intro j
      by_cases hj : j < k
      · have h4 := congrArg (fun l => l[j]?) ht
        simp only [List.getElem?_take, if_pos hj, List.getElem?_map] at h4 ⊢
        have hl := (List.getElem?_eq_some_iff.1 he).1
        have hl2 := (List.getElem?_eq_some_iff.1 hf).1
        obtain ⟨e', he'⟩ : ∃ e', (zApp M U)[j]? = some e' := ⟨_, List.getElem?_eq_getElem (by omega)⟩
        obtain ⟨f', hf'⟩ : ∃ f', Z[j]? = some f' := ⟨_, List.getElem?_eq_getElem (by omega)⟩
        rw [he', hf'] at h4 ⊢
        have e1 : M[j]? = some e'.1 := by rw [← h2, List.getElem?_map, he']; rfl
        have e2 : M[j]? = some f'.1 := by rw [← hm, List.getElem?_map, hf']; rfl
        have e3 : e'.1 = f'.1 := by rw [e1] at e2; exact Option.some.inj e2
        have h5 : zE U e' = zE U f' := by simpa using h4
        unfold zE at h5
        injection h5 with _ k1 k2
        obtain ⟨_, ⟨ya, a1, _⟩, yb, b1, _⟩ := h1.ok e' (List.mem_of_getElem? he')
        obtain ⟨_, ⟨yc, c1, _⟩, yd, d1, _⟩ := hz.ok f' (List.mem_of_getElem? hf')
        rw [nmU_of a1, nmU_of c1] at k1
        rw [nmU_of b1, nmU_of d1] at k2
        have p1 : e'.2.1 = f'.2.1 := Classical.byContradiction fun hn => by have := nm_ne hk hn a1 c1; rw [seq_eq.2 k1] at this; cases this
        have p2 : e'.2.2 = f'.2.2 := Classical.byContradiction fun hn => by have := nm_ne hk hn b1 d1; rw [seq_eq.2 k2] at this; cases this
        rw [show e' = f' from Prod.ext e3 (Prod.ext p1 p2)]
      · rw [List.getElem?_take, if_neg hj, List.getElem?_take, if_neg hj]
    obtain ⟨e3, hlt⟩ := app_least hk hb hz hm htk he hf
    obtain ⟨_, ⟨ya, a1, _⟩, yb, b1, _⟩ := h1.ok e (List.mem_of_getElem? he)
    obtain ⟨_, ⟨yc, c1, _⟩, yd, d1, _⟩ := hz.ok f (List.mem_of_getElem? hf)
    show slt (nmU U e.2.1) (nmU U f.2.1) = true ∨ nmU U e.2.1 = nmU U f.2.1 ∧ slt (nmU U e.2.2) (nmU U f.2.2) = true
    rcases hlt with k1 | ⟨k1, k2⟩
    · left
      rw [nmU_of a1, nmU_of c1]
      exact um_lt hk k1 a1 c1
    · right
      refine ⟨by rw [k1], ?_⟩
      rw [nmU_of b1, nmU_of d1]
      have hne2 : e.2.2 ≠ f.2.2 := fun c => hne (by rw [show e = f from Prod.ext e3 (Prod.ext k1 c)])
      exact um_lt hk (by omega) b1 d1
end Go.Proofs.Ytckbhdokfkabfaa
