/-
  Chapter 55: Accept's set of stands: a map of the call's own, keyed by a struct.
-/
import Derived.Test.YtckbhdokfkabfaaMp55
import Derived.Test.YtckbhdokfkabfaaEqf55
import Derived.DeepKeys4
set_option linter.unusedSimpArgs false
set_option linter.unusedVariables false
namespace Go.Proofs.Ytckbhdokfkabfaa
open Go.RowKit
set_option maxRecDepth 100000
set_option maxHeartbeats 4000000
def stV (d : Int) (s : ByteArray) : Value := .agg #[.int .i64 d, .string s]
theorem stand_laid : laidOutB Try.prog = true := by kernel_rfl
theorem stand_row : (84 : TypeId) < Try.prog.types.size := of_decide_eq_true (by kernel_rfl)
theorem stand_wide : (match Try.prog.underlying 84 with | some (.array _ _) | some (.struct _) => true | _ => false) = true := by kernel_rfl
theorem stand_cells : Try.prog.cellsOf 84 = 2 := by kernel_rfl
theorem stand_keyType : Try.prog.keyType 84 = true := by kernel_rfl
theorem stand_law : Maps.Keyed Try.prog 84 := Maps.Keyed.of_law (Go.deep_law_laid stand_laid (m := 3) (by omega) stand_row (by kernel_rfl) stand_wide)
theorem stand_key {d : Int} {s : ByteArray} (hd : (Lit.int .i64 d).wf = true) (hs : s.size ≤ maxLen) : ∃ l, keyOf Try.prog 84 (stV d s) = some l := by
  obtain ⟨n, hn⟩ : ∃ n, Try.prog.types.size + 1 = n + 2 := by
    have h : (84 : Nat) < Try.prog.types.size := stand_row
    exact ⟨Try.prog.types.size - 1, by omega⟩
  unfold keyOf
  rw [Try.underlying84]
  simp only [stand_keyType, Bool.true_and]
  have hf : (stV d s).formed Try.prog 84 = true := by
    unfold stV
    simp [Value.formed, Try.underlying84, stand_cells]
  rw [if_pos hf, hn]
  have hc : (stV d s).cells.toList = [.int .i64 d, .string s] := rfl
  rw [hc]
  have hk : Try.prog.keyLits (n + 2) 84 [.int .i64 d, .string s] = some [.int .i64 d, .string s.data.toList] := by
    have c1 : Try.prog.cellsOf 2 = 1 := by kernel_rfl
    have c2 : Try.prog.cellsOf 9 = 1 := by kernel_rfl
    have k1 : Try.prog.keyLits (n + 1) 2 [.int .i64 d] = some [.int .i64 d] := by
      unfold Program.keyLits
      rw [Try.underlying2]
      simp [hd]
    have k2 : Try.prog.keyLits (n + 1) 9 [.string s] = some [.string s.data.toList] := by
      unfold Program.keyLits
      rw [Try.underlying9]
      simp [hs]
    unfold Program.keyLits
    rw [Try.underlying84]
    simp [stand_cells, c1, c2, k1, k2]
  exact ⟨_, by rw [hk]; rfl⟩
/-- Block b is a set of at most n stands. -/
def StM (w : World) (b n : Nat) (f : Int → ByteArray → Bool) : Prop := ∃ D : DataW (List Value), w.ownsMap Try.prog 84 heldV b n D ∧ Maps.IsMap D ∧ ∀ d s l, keyOf Try.prog 84 (stV d s) = some l → D.atKey l (.held [.bool false]) = .held [.bool (f d s)]
theorem StM.made (w : World) : StM (w.alloc (.map #[] 0)) w.heap.size 0 (fun _ _ => false) := ⟨.map [], World.ownsMap_made w _ _ _, Maps.isMap_empty, fun _ _ _ _ => rfl⟩
theorem StM.lt {w : World} {b n : Nat} {f : Int → ByteArray → Bool} (h : StM w b n f) : b < w.heap.size := by
  obtain ⟨D, h1, _⟩ := h
  exact h1.lt
theorem StM.far {w w' : World} {b n : Nat} {f : Int → ByteArray → Bool} {bs : List Nat} (h : StM w b n f) (hf : Far bs w w') (hn : b ∉ bs) : StM w' b n f := by
  have hl := h.lt
  obtain ⟨D, ⟨es, clock, h1, h2, h3, h4⟩, h5⟩ := h
  exact ⟨D, ⟨es, clock, (hf.block b hl hn).trans h1, h2, h3, h4⟩, h5⟩
theorem StM.to {w w' : World} {b n : Nat} {f : Int → ByteArray → Bool} (h : StM w b n f) (hb : Below w.heap.size w w') : StM w' b n f := h.far (Far.of (bs := []) hb) (by simp)
theorem StM.ne {w : World} {b n g e : Nat} {f : Int → ByteArray → Bool} {cs : List Value} (h : StM w b n f) (hg : Blk w g e cs) : g ≠ b := by
  rintro rfl
  obtain ⟨D, ⟨es, clock, h1, _⟩, _⟩ := h
  rw [hg] at h1
  cases h1
theorem Try.zBo (w : World) : (zeroValue 4).run Try.prog w = .ok (.bool false) w := by kernel_rfl
theorem StM.look {w : World} {b n : Nat} {f : Int → ByteArray → Bool} (h : StM w b n f) {d : Int} {s : ByteArray} (hd : (Lit.int .i64 d).wf = true) (hs : s.size ≤ maxLen) :
    Sem.run Try.prog (Instr.lookup 81 (.map (some b)) (stV d s) false) w = .ok (.bool (f d s)) w := by
  obtain ⟨l, hl⟩ := stand_key hd hs
  obtain ⟨D, h1, _, h3⟩ := h
  obtain ⟨v, ps, hrun, hv⟩ := h1.lookup stand_law Try.underlying81 (z := .bool false) (Try.zBo w) (zd := .held [.bool false]) (zp := []) rfl hl
  rw [h3 d s l hl] at hv
  rw [heldV_inv hv] at hrun
  exact hrun
def putS (f : Int → ByteArray → Bool) (d : Int) (s : ByteArray) : Int → ByteArray → Bool := fun d' s' => (d' == d && seq s' s) || f d' s'
theorem step_stand (w : World) {ops : Array Oper} {o : Oper} {a : Act} {K : Act → World → Prop} {Q : Exit → Act → World → Prop} {X : Prop} (hgd : o.guard = none) (m y v : Operand) (hop : o.op = Op.mapUpdate 81 m y v) (b n : Nat) (f : Int → ByteArray → Bool) (d : Int) (s : ByteArray)
    (hm : a.eval m = .map (some b)) (hy : a.eval y = stV d s) (hv : a.eval v = .bool true) (h : StM w b n f) (hn : n < maxLen) (hd : (Lit.int .i64 d).wf = true) (hs : s.size ≤ maxLen)
    (hK : ∀ w', StM w' b (n + 1) (putS f d s) → w.grownBy w' (some b) → K (a.put o.dst undef) w') :
    if Region.wanted o (yielded ops a.tmps) = true then Oper.wp Try.prog o a w K Q else X := by
  have hw : Region.wanted o (yielded ops a.tmps) = true := by simp [Region.wanted, hgd]
  rw [if_pos hw]
  obtain ⟨l, hl⟩ := stand_key hd hs
  obtain ⟨D, h1, h2, h3⟩ := h
  obtain ⟨w', hrun, r1, r2⟩ := h1.update (d := .held [.bool true]) (ps := []) stand_law Try.underlying81 hn hl (val := .bool true) rfl
  unfold Oper.wp
  simp [execOp, hop, hm, hy, hv, hrun, Result.andThen]
  refine hK w' ⟨_, r1, h2.put _ _, fun d' s' l' hl' => ?_⟩ r2
  by_cases e : l' = l
  · subst e
    have he := stand_law.inj hl' hl
    have hds : d' = d ∧ s' = s := by
      unfold stV at he
      simpa using he
    rw [Maps.atKey_put_same h2 (stand_law.key hl')]
    unfold putS
    rw [hds.1, hds.2, show seq s s = true from seq_eq.2 rfl]
    simp
  · rw [Maps.atKey_put_other e, h3 d' s' l' hl']
    have hne : (d' == d && seq s' s) = false := by
      cases hq : (d' == d && seq s' s)
      · rfl
      · exfalso
        simp only [Bool.and_eq_true, beq_iff_eq] at hq
        rw [hq.1, seq_eq.1 hq.2, hl] at hl'
        exact e (Option.some.inj hl').symm
    unfold putS
    rw [hne, Bool.false_or]
end Go.Proofs.Ytckbhdokfkabfaa
