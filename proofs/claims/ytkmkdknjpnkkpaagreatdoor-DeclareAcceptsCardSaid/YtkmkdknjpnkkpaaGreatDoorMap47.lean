/-
  Chapter 47: the reference's memory of values: a map of the call's own, by lead and number of overs.
-/
import Derived.Test.YtkmkdknjpnkkpaaGreatDoorNowR47
import Derived.Maps.OwnOps
import Derived.Maps.Views
import Derived.DeepKeys4
set_option linter.unusedSimpArgs false
set_option linter.unusedVariables false
namespace Go.Proofs.YtkmkdknjpnkkpaaGreatDoor
open Go.RowKit
set_option maxRecDepth 100000
set_option maxHeartbeats 1000000

theorem laidOutP : laidOutB Tryz.prog = true := by kernel_rfl
theorem keyed47 : Maps.Keyed Tryz.prog 72 := Maps.Keyed.of_law (deep_law_laid laidOutP (m := 2) (by omega) (of_decide_eq_true (by kernel_rfl)) (by kernel_rfl) (by rw [Tryz.underlying72]))
abbrev kV (l m : Int) : Value := .agg #[.int .i64 l, .int .i64 m]
def kL (l m : Int) : Lit := .string (keyBytes [.int .i64 l, .int .i64 m])
def I64 (n : Int) : Prop := -9223372036854775808 ≤ n ∧ n ≤ 9223372036854775807
theorem wf_i64 {n : Int} (h : I64 n) : (Lit.int .i64 n).wf = true := by
  have : wrap64 n = n := by unfold wrap64; unfold I64 at h; omega
  rw [← this]
  exact wrap64_wf n
theorem key_of {l m : Int} (hl : I64 l) (hm : I64 m) : keyOf Tryz.prog 72 (kV l m) = some (kL l m) := by
  have h1 := wf_i64 hl
  have h2 := wf_i64 hm
  have hC : Tryz.prog.cellsOf 72 = 2 := by kernel_rfl
  have hCi : Tryz.prog.cellsOf 3 = 1 := by kernel_rfl
  have hk : Tryz.prog.keyType 72 = true := by kernel_rfl
  obtain ⟨N, hN⟩ : ∃ N, Tryz.prog.types.size = N + 1 := ⟨Tryz.prog.types.size - 1, by have : 0 < Tryz.prog.types.size := of_decide_eq_true (by kernel_rfl); omega⟩
  unfold keyOf
  rw [Tryz.underlying72, hN]
  simp [hk, Value.formed, Tryz.underlying72, Tryz.underlying3, hC, hCi, Program.keyLits, Value.cells, h1, h2, kL]
theorem key_ne {l m l' m' : Int} (hl : I64 l) (hm : I64 m) (hl' : I64 l') (hm' : I64 m') (h : ¬ (l = l' ∧ m = m')) : kL l m ≠ kL l' m' := by
  intro e
  have := keyed47.inj (key_of hl hm) (by rw [e]; exact key_of hl' hm')
  simp at this
  exact h this

/-- The box of the keys. -/
def Bx (x : Int × Int) : Prop := -20000 ≤ x.1 ∧ x.1 ≤ 20000 ∧ 0 ≤ x.2 ∧ x.2 ≤ 11
theorem Bx.wf {x : Int × Int} (h : Bx x) : I64 x.1 ∧ I64 x.2 := by unfold Bx at h; unfold I64; omega
/-- Block b is a map that holds, for each of the keys ks, the value f. -/
def Memo (f : Int → Int → Int) (w : World) (b : Nat) (ks : List (Int × Int)) : Prop := ∃ D : DataW Unit, w.ownsMap Tryz.prog 72 (plainElem Tryz.prog 2) b ks.length D ∧ Maps.IsMap D ∧
  (∀ x, Bx x → if x ∈ ks then ∀ z, D.atKey (kL x.1 x.2) z = .lit (.int .i64 (f x.2 x.1)) else ∀ z, D.atKey (kL x.1 x.2) z = z) ∧ ks.Nodup ∧ ∀ x ∈ ks, Bx x
theorem Memo.made (f : Int → Int → Int) (w : World) : Memo f (w.alloc (.map #[] 0)) w.heap.size [] := ⟨.map [], World.ownsMap_made w _ _ _, Maps.isMap_empty, fun x _ => by simp; intro z; rfl, List.nodup_nil, by simp⟩
theorem Memo.lt {f : Int → Int → Int} {w : World} {b : Nat} {ks : List (Int × Int)} (h : Memo f w b ks) : b < w.heap.size := by
  obtain ⟨D, h1, _⟩ := h
  exact h1.lt
theorem Memo.same {f : Int → Int → Int} {w w' : World} {b : Nat} {ks : List (Int × Int)} (h : Memo f w b ks) (hb : w'.heap[b]? = w.heap[b]?) : Memo f w' b ks := by
  obtain ⟨D, ⟨es, clock, h1, h2, h3, h4⟩, h5⟩ := h
  exact ⟨D, ⟨es, clock, hb.trans h1, h2, h3, h4⟩, h5⟩
theorem Memo.to {f : Int → Int → Int} {w w' : World} {b : Nat} {ks : List (Int × Int)} (h : Memo f w b ks) (hb : Below w.heap.size w w') : Memo f w' b ks := h.same (hb.block b h.lt)
theorem int_inv {P : Program} {e : TypeId} {v : Value} {x : Int} {ps : List MemPlace} (he : P.underlying e = some (.int .i64)) (h : plainElem (H := Unit) P e v = some (.lit (.int .i64 x), ps)) : v = .int .i64 x := by
  obtain ⟨c, rfl, hc, _⟩ := plainElem_int_inv he h
  simp only [Prod.mk.injEq] at hc
  injection hc.1 with h1
  injection h1 with _ h1
  rw [h1]
theorem Memo.look {f : Int → Int → Int} {w : World} {b : Nat} {ks : List (Int × Int)} (h : Memo f w b ks) {l m : Int} (hx : Bx (l, m)) :
    Sem.run Tryz.prog (Instr.lookup 51 (.map (some b)) (kV l m) true) w = .ok (if (l, m) ∈ ks then .tuple #[.int .i64 (f m l), .bool true] else .tuple #[.int .i64 0, .bool false]) w := by
  obtain ⟨D, ⟨es, clock, h1, h2, _, h4⟩, _, h6, _⟩ := h
  have h7 := h6 _ hx
  have hz : ∀ w, Sem.run Tryz.prog (zeroValue 2) w = .ok (.int .i64 0) w := fun w => by kernel_rfl
  rcases Maps.fit_look true keyed47 Tryz.underlying51 (hz w) h1 h2 (key_of (Bx.wf hx).1 (Bx.wf hx).2) with ⟨hr, _, hat⟩ | ⟨e0, y, _, _, hr, hy, hat, _⟩
  · rw [← h4] at hat
    by_cases hm : (l, m) ∈ ks
    · rw [if_pos hm] at h7
      have := (h7 (.map [])).symm.trans (hat (.map []))
      cases this
    · rw [if_neg hm]; exact hr
  · rw [← h4] at hat
    by_cases hm : (l, m) ∈ ks
    · rw [if_pos hm] at h7
      have e1 := (hat (.map [])).symm.trans (h7 (.map []))
      obtain ⟨y1, y2⟩ := y
      simp only [] at e1
      subst e1
      rw [int_inv Tryz.underlying2 hy] at hr
      rw [if_pos hm]; exact hr
    · rw [if_neg hm] at h7
      have e1 := (hat (.map [])).symm.trans (h7 (.map []))
      have e2 := (hat (.lit (.bool true))).symm.trans (h7 (.lit (.bool true)))
      rw [e1] at e2
      cases e2
theorem pigeon : ∀ (N : Nat) (l : List Nat), l.Nodup → (∀ x ∈ l, x < N) → l.length ≤ N := by
  intro N
  induction N with
  | zero =>
    intro l _ h
    cases l with
    | nil => exact Nat.le_refl _
    | cons x r => have := h x List.mem_cons_self; omega
  | succ N ih =>
    intro l hn h
    have h1 := ih (l.filter (· ≠ N)) (hn.filter _) (fun x hx => by
      obtain ⟨h2, h3⟩ := List.mem_filter.1 hx
      have := h x h2
      simp at h3
      omega)
    have h2 : l.length ≤ (l.filter (· ≠ N)).length + 1 := by
      have h3 : l.count N ≤ 1 := List.nodup_iff_count.1 hn N
      have h4 : (l.filter (· ≠ N)).length + l.count N = l.length := by
        rw [List.count, List.countP_eq_length_filter]
        clear ih hn h h1 h3
        induction l with
        | nil => rfl
        | cons x r ih =>
          by_cases hx : x = N
          · subst hx; simp at ih ⊢; omega
          · simp [hx] at ih ⊢; omega
      omega
    omega
theorem Memo.room {f : Int → Int → Int} {w : World} {b : Nat} {ks : List (Int × Int)} (h : Memo f w b ks) : ks.length < maxLen := by
  obtain ⟨_, _, _, _, hn, hB⟩ := h
  have h1 := pigeon 480012 (ks.map fun x => ((x.1 + 20000) * 12 + x.2).toNat) (by
    refine List.pairwise_map.2 (List.Pairwise.imp_of_mem ?_ hn)
    intro x y hx hy hne e
    have b1 := hB x hx
    have b2 := hB y hy
    unfold Bx at b1 b2
    exact hne (Prod.ext (by omega) (by omega))) (fun n hn => by
    obtain ⟨x, hx, rfl⟩ := List.mem_map.1 hn
    have b1 := hB x hx
    unfold Bx at b1
    omega)
  rw [List.length_map] at h1
  unfold maxLen; omega
/-- What a call may turn that writes into the map b alone. -/
structure Mb (w w' : World) (b : Nat) : Prop where
  keep : ∀ x, x < w.heap.size → x ≠ b → w'.heap[x]? = w.heap[x]?
  size : w.heap.size ≤ w'.heap.size
  below : ∀ (B : Nat) (a : World), Below B a w → B ≤ b → Below B a w'
theorem Mb.trans {w w1 w2 : World} {b : Nat} (h : Mb w w1 b) (h' : Mb w1 w2 b) : Mb w w2 b :=
  ⟨fun x hx hne => (h'.keep x (by have := h.size; omega) hne).trans (h.keep x hx hne), Nat.le_trans h.size h'.size, fun B a hB hb => h'.below B a (h.below B a hB hb) hb⟩
theorem Mb.of {w w' : World} {b : Nat} (h : Below w.heap.size w w') (hb : b < w.heap.size) : Mb w w' b :=
  ⟨fun x hx _ => h.block x hx, h.size, fun B a hB hb' => hB.trans (h.mono (by omega))⟩
theorem Mb.cell {w w' : World} {b : Nat} (h : Mb w w' b) {x o : Nat} (hx : x < w.heap.size) (hne : x ≠ b) : w'.cell? ⟨x, o, none⟩ = w.cell? ⟨x, o, none⟩ := World.cell?_of_block (a := ⟨x, o, none⟩) (h.keep x hx hne)
theorem Mb.blk {w w' : World} {b : Nat} (h : Mb w w' b) {g : Nat} {e : TypeId} {xs : List Value} (hg : Blk w g e xs) (hne : g ≠ b) : Blk w' g e xs := (h.keep g hg.lt hne).trans hg
theorem wpList_memoPut {f : Int → Int → Int} {w : World} {ops : Array Oper} {rest : List Oper} {o : Oper} {a : Act} {Q : Exit → Act → World → Prop} (hgd : o.guard = none) (mm k v : Operand) (hop : o.op = Op.mapUpdate 51 mm k v) (b : Nat) (ks : List (Int × Int)) (l m y : Int)
    (hm : a.eval mm = .map (some b)) (hk : a.eval k = kV l m) (hv : a.eval v = .int .i64 y) (h : Memo f w b ks) (hx : Bx (l, m)) (hn : (l, m) ∉ ks) (hy : f m l = y) (hyr : I64 y)
    (hK : ∀ w', Memo f w' b (ks ++ [(l, m)]) → Mb w w' b → wpList Tryz.prog ops Q rest (a.put o.dst undef) w') : wpList Tryz.prog ops Q (o :: rest) a w := by
  have hroom := h.room
  have hlt := h.lt
  obtain ⟨D, h1, h2, h3, h4, h5⟩ := h
  refine wpList_mapUpdate_own w hgd mm k v 51 hop 72 2 keyed47 Tryz.underlying51 _ b ks.length D hm h1 hroom _ _ (kL l m) hk hv (key_of (Bx.wf hx).1 (Bx.wf hx).2) (.lit (.int .i64 y)) [] (plainElem_int Tryz.underlying2 (wf_i64 hyr)) ?_
  intro w' hw' hg
  refine hK w' ⟨_, by rw [List.length_append]; exact hw', h2.put _ _, fun z hz => ?_, ?_, ?_⟩ ⟨fun x hx hne => hg.block x hx (fun e => hne (by injection e)), hg.size, fun B a hB hb => hB.trans ⟨hg.os, hg.tape, hg.output, hg.size, fun k hk => hg.block k (by omega) (fun e => by injection e; omega)⟩⟩
  · by_cases e : z = (l, m)
    · subst e
      rw [if_pos (by simp)]
      intro zz
      rw [Maps.atKey_put_same h2 (keyed47.key (key_of (Bx.wf hx).1 (Bx.wf hx).2)), hy]
    · have hne : kL z.1 z.2 ≠ kL l m := key_ne (Bx.wf hz).1 (Bx.wf hz).2 (Bx.wf hx).1 (Bx.wf hx).2 (fun h => e (Prod.ext h.1 h.2))
      have h6 := h3 z hz
      by_cases hzk : z ∈ ks
      · rw [if_pos hzk] at h6
        rw [if_pos (List.mem_append_left _ hzk)]
        intro zz
        rw [Maps.atKey_put_other hne, h6]
      · rw [if_neg hzk] at h6
        rw [if_neg (by simp [hzk, e])]
        intro zz
        rw [Maps.atKey_put_other hne, h6]
  · exact List.nodup_append.2 ⟨h4, by simp, by intro x hx y hy; simp at hy; subst hy; intro e; subst e; exact hn hx⟩
  · intro x hx'
    rcases List.mem_append.1 hx' with h | h
    · exact h5 x h
    · simp at h; subst h; exact hx
end Go.Proofs.YtkmkdknjpnkkpaaGreatDoor
