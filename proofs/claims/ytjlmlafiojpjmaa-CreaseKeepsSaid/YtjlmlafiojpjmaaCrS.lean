/-
  Chapter 12: the state in which a call stands behind 'after := own(in)', and what it hands back.
-/
import Derived.Test.YtjlmlafiojpjmaaCrD
set_option linter.unusedSimpArgs false
set_option linter.unusedVariables false
namespace Go.Proofs.Ytjlmlafiojpjmaa
open Go.RowKit

theorem Inn.one (I : Inn) {V : Ls} (h : V.One) : (I.cells V).toArray.all (·.oneCell') = true := inn_one I.r I.wk I.st I.ot h
theorem InnO.ones {w : World} {base : Nat} {V : Ls} {I : Inn} (h : InnO w base V I) : V.One := h.rd.one
theorem dismissS_lists (I : Inn) (p : Int) : (dismissS I p).bo = I.bo ∧ (dismissS I p).be = I.be ∧ (dismissS I p).bd = I.bd ∧ (dismissS I p).sb = I.sb ∧ (dismissS I p).b.length = I.b.length := by
  unfold dismissS
  split <;> simp
/-- bi: the block of the argument (cells I, V); br: that of the result; G: that of 'after' (cells J, U). -/
structure Cs (w wc : World) (bi br G : Nat) (V : Ls) (I : Inn) (U : Ls) (J : Inn) : Prop where
  inn : Blk wc bi 32 (I.cells V)
  res : Blk wc br 32 zeroL
  aft : Blk wc G 32 (J.cells U)
  own : InnO wc w.heap.size U J
  awi : U.Away bi
  awr : U.Away br
  awa : U.Away G
  ne : bi ≠ G ∧ br ≠ G ∧ bi ≠ br ∧ w.heap.size ≤ bi ∧ w.heap.size ≤ br ∧ w.heap.size ≤ G
  bel : Below w.heap.size w wc
section
variable {w wc wd : World} {bi br G : Nat} {V U : Ls} {I J J' : Inn}
theorem Cs.to (h : Cs w wc bi br G V I U J) (hb : Below wc.heap.size wc wd) : Cs w wd bi br G V I U J :=
  ⟨h.inn.to hb, h.res.to hb, h.aft.to hb, h.own.to hb, h.awi, h.awr, h.awa, h.ne, cur_step1 h.bel hb⟩
theorem Cs.setA (h : Cs w wc bi br G V I U J) (j : Nat) (u : Value) (hc : (J.cells U).set j u = J'.cells U) (h1 : J'.b = J.b) (h2 : J'.bo = J.bo) (h3 : J'.be = J.be) (h4 : J'.bd = J.bd) (h5 : J'.sb = J.sb) : Cs w (wc.setCell ⟨G, j, none⟩ u) bi br G V I U J' :=
  ⟨h.inn.other h.ne.1 j u, h.res.other h.ne.2.1 j u, by rw [← hc]; exact h.aft.set j u, (h.own.other h.awa j u).reI h1 h2 h3 h4 h5, h.awi, h.awr, h.awa, h.ne, below_set h.bel h.ne.2.2.2.2.2 j u⟩
theorem Cs.setSt (h : Cs w wc bi br G V I U J) (x : Int) : Cs w (wc.setCell ⟨G, 12, none⟩ (.int .i64 x)) bi br G V I U { J with st := x } := h.setA 12 _ rfl rfl rfl rfl rfl rfl
theorem Cs.setOt (h : Cs w wc bi br G V I U J) (x : Int) : Cs w (wc.setCell ⟨G, 13, none⟩ (.int .i64 x)) bi br G V I U { J with ot := x } := h.setA 13 _ rfl rfl rfl rfl rfl rfl
theorem Cs.setB (h : Cs w wc bi br G V I U J) {b c : Nat} (hV : U.b = .slice (some ⟨b, 0, none⟩) J.b.length c) (P : Nat) (x : Int) : Cs w (wc.setCell ⟨b, P, none⟩ (.int .u8 x)) bi br G V I U { J with b := J.b.set P x } := by
  have hk : U.b.ownBlock = some b := by rw [hV]; rfl
  have hb := (own_range h.own.b b hk).1
  exact ⟨h.inn.other (fun e => h.awi.b b hk e.symm) _ _, h.res.other (fun e => h.awr.b b hk e.symm) _ _, h.aft.other (fun e => h.awa.b b hk e.symm) _ _, h.own.setB hV P x, h.awi, h.awr, h.awa, h.ne, below_set h.bel hb _ _⟩
theorem Cs.dis (h : Cs w wc bi br G V I U J) {p : Int} (h1 : Blk wd G 32 ((dismissS J p).cells U)) (h2 : InnO wd w.heap.size U (dismissS J p)) (h3 : Dis wc wd G U) : Cs w wd bi br G V I U (dismissS J p) := by
  have hk : ∀ x, x < wc.heap.size → x ≠ G → U.Away x → wd.heap[x]? = wc.heap[x]? := fun x hx hg ha => h3.keep x hx hg (fun e => ha.b x e rfl)
  exact ⟨(hk bi h.inn.lt h.ne.1 h.awi).trans h.inn, (hk br h.res.lt h.ne.2.1 h.awr).trans h.res, h1, h2, h.awi, h.awr, h.awa, h.ne, h3.below _ _ h.bel h.ne.2.2.2.2.2 (fun k hk => (own_range h.own.b k hk).1)⟩
theorem Cs.st (h : Cs w wc bi br G V I U J) : wc.cell? ⟨G, 12, none⟩ = some (.int .i64 J.st) := h.aft.cell 12
theorem Cs.ot (h : Cs w wc bi br G V I U J) : wc.cell? ⟨G, 13, none⟩ = some (.int .i64 J.ot) := h.aft.cell 13
theorem Cs.lb (h : Cs w wc bi br G V I U J) {v : Value} (hv : U.b = v) : wc.cell? ⟨G, 14, none⟩ = some v := by rw [← hv]; exact h.aft.cell 14
theorem Cs.ist (h : Cs w wc bi br G V I U J) : wc.cell? ⟨bi, 12, none⟩ = some (.int .i64 I.st) := h.inn.cell 12
theorem Cs.iot (h : Cs w wc bi br G V I U J) : wc.cell? ⟨bi, 13, none⟩ = some (.int .i64 I.ot) := h.inn.cell 13
theorem Cs.fr (h : Cs w wc bi br G V I U J) (j : Nat) : wc.frozen? ⟨G, j, none⟩ = false := h.aft.frozen j
theorem Cs.bat (h : Cs w wc bi br G V I U J) {b c : Nat} (hV : U.b = .slice (some ⟨b, 0, none⟩) J.b.length c) {P : Nat} (hP : P < J.b.length) : (∃ x, wc.cell? ⟨b, P, none⟩ = some (.int .u8 x)) ∧ wc.frozen? ⟨b, P, none⟩ = false := by
  have hb := h.own.b
  rw [hV, stC_len] at hb
  have hx : (stC J.b)[P]? = some (.int .u8 (J.b[P]'hP)) := stC_at (List.getElem?_eq_getElem hP)
  exact ⟨⟨_, (hb.cellAt P (by omega)).trans hx⟩, hb.frozenAt P⟩
/-- The prelude of a call that boxes its argument and makes its result, behind own. -/
theorem Cs.start {w0 w1 : World} (h1 : Blk w0 bi 32 (I.cells V)) (h2 : Blk w0 br 32 zeroL) (hb0 : Below w.heap.size w w0) (hn : bi ≠ br) (hi : w.heap.size ≤ bi) (hr : w.heap.size ≤ br) (ho : InnO w1 w0.heap.size U I) (hb1 : Below w0.heap.size w0 w1) :
    Cs w (w1.alloc (.cells (I.cells U).toArray 32)) bi br w1.heap.size V I U I := by
  have l1 := h1.lt
  have l2 := h2.lt
  have l3 := hb0.size
  have l4 := hb1.size
  have hb2 := cur_new w1 (.cells (I.cells U).toArray 32)
  exact ⟨(h1.to hb1).to hb2, (h2.to hb1).to hb2, Blk.new w1 _ _, (ho.mono l3).to hb2, ho.away (.inl l1), ho.away (.inl l2), ho.away (.inr (Nat.le_refl _)), ⟨by omega, by omega, hn, hi, hr, by omega⟩, cur_step1 (cur_step1 hb0 hb1) hb2⟩
theorem Cs.fin (h : Cs w wc bi br G V I U J) : Blk (wc.setRow br (J.cells U).toArray) br 32 (J.cells U) ∧ InnO (wc.setRow br (J.cells U).toArray) w.heap.size U J ∧ Below w.heap.size w (wc.setRow br (J.cells U).toArray) :=
  ⟨blk_row h.res _, h.own.row h.awr _, row_below h.bel h.ne.2.2.2.2.1 _⟩
end
end Go.Proofs.Ytjlmlafiojpjmaa
