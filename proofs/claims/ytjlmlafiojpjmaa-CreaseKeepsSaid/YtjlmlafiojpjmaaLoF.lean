/-
  A drawn region: a load may be taken first where every operation that may come ahead of it leaves memory alone (and every one that writes waits for it).
-/
import Derived.Test.YtjlmlafiojpjmaaBase
import Derived.RegionTactic
set_option linter.unusedSimpArgs false
set_option linter.unusedVariables false
namespace Go.Proofs.Ytjlmlafiojpjmaa
open Go.RowKit

/-- A computation that leaves memory alone. -/
def Idle {α : Type} (s : Sem α) : Prop := ∀ (P : Program) (w : World), (∃ a w', s.run P w = .ok a w' ∧ w'.heap = w.heap) ∨ (∃ h w', s.run P w = .halt h w')
section
variable {α β : Type}
theorem Idle.pure (a : α) : Idle (Pure.pure a : Sem α) := fun P w => .inl ⟨a, w, rfl, rfl⟩
theorem Idle.halt (h : Halt) : Idle (Sem.halt h : Sem α) := fun P w => .inr ⟨h, w, rfl⟩
theorem Idle.bind {x : Sem α} {f : α → Sem β} (h : Idle x) (hf : ∀ a, Idle (f a)) : Idle (x >>= f) := by
  intro P w
  show (∃ a w', (x.bind f).run P w = _ ∧ _) ∨ _
  rw [show (x >>= f) = x.bind f from rfl, Sem.run_bind']
  rcases h P w with ⟨a, w1, e, h1⟩ | ⟨h0, w1, e⟩
  · rw [e]
    rcases hf a P w1 with ⟨b, w2, e2, h2⟩ | ⟨h0, w2, e2⟩
    · exact .inl ⟨b, w2, e2, h2.trans h1⟩
    · exact .inr ⟨h0, w2, e2⟩
  · rw [e]; exact .inr ⟨h0, w1, rfl⟩
theorem Idle.program : Idle program := fun P w => .inl ⟨P, w, rfl, rfl⟩
theorem Idle.shape (r : Nat) : Idle (shape r) := fun P w => .inl ⟨_, w, rfl, rfl⟩
theorem Idle.frozen (a : Addr) : Idle (frozen a) := fun P w => .inl ⟨_, w, rfl, rfl⟩
theorem Idle.stuck (s : String) : Idle (stuck s : Sem α) := Idle.halt _
theorem Idle.unsupported (u : Unsupported) : Idle (unsupported u : Sem α) := Idle.halt _
theorem Idle.goPanic (v : Value) : Idle (goPanic v : Sem α) := Idle.halt _
theorem Idle.load (a : Addr) (m : Mode) : Idle (load a m) := by
  intro P w
  show (∃ v w', (Sem.load m a Sem.pure).run P w = _ ∧ _) ∨ (∃ h w', (Sem.load m a Sem.pure).run P w = _)
  simp only [Sem.run]
  split
  · exact .inl ⟨_, w, rfl, rfl⟩
  · split
    · exact .inl ⟨_, w, rfl, rfl⟩
    · exact .inr ⟨_, w, rfl⟩
theorem Idle.choose (q : Question) : Idle (choose q) := by
  intro P w
  show (∃ v w', (Sem.choose q Sem.pure).run P w = _ ∧ _) ∨ (∃ h w', (Sem.choose q Sem.pure).run P w = _)
  simp only [Sem.run]
  split
  · exact .inl ⟨_, w, rfl, rfl⟩
  · exact .inl ⟨_, _, rfl, rfl⟩
theorem Idle.getObj (r : Nat) : Idle (getObj r) := by
  intro P w
  show (∃ v w', (Sem.getObj r Sem.pure).run P w = _ ∧ _) ∨ (∃ h w', (Sem.getObj r Sem.pure).run P w = _)
  simp only [Sem.run]
  split
  · exact .inr ⟨_, w, rfl⟩
  · exact .inl ⟨_, w, rfl, rfl⟩
  · exact .inr ⟨_, w, rfl⟩
end
theorem Idle.typeInfo (t : TypeId) : Idle (typeInfo t) := by
  unfold Go.typeInfo
  refine Idle.bind Idle.program fun p => ?_
  split
  · exact Idle.pure _
  · exact Idle.stuck _
theorem Idle.underlying (t : TypeId) : Idle (underlying t) := by
  unfold Go.underlying
  refine Idle.bind Idle.program fun p => ?_
  split
  · exact Idle.pure _
  · exact Idle.stuck _
theorem Idle.sizeOf (t : TypeId) : Idle (sizeOf t) := by
  unfold Go.sizeOf
  exact Idle.bind (Idle.typeInfo t) fun p => Idle.pure _
theorem Idle.isAgg (t : TypeId) : Idle (isAgg t) := by
  unfold Go.isAgg
  refine Idle.bind (Idle.underlying t) fun p => ?_
  split <;> exact Idle.pure _
theorem Idle.loadCellsFrom (a : Addr) : ∀ (n i : Nat) (acc : Array Value), Idle (loadCellsFrom a i n acc)
  | 0, i, acc => Idle.pure _
  | n + 1, i, acc => Idle.bind (Idle.load _ _) fun v => Idle.loadCellsFrom a n (i + 1) _
theorem Idle.loadVar (t : TypeId) (a : Addr) : Idle (loadVar t a) := by
  unfold Go.loadVar
  refine Idle.bind (Idle.isAgg t) fun b => ?_
  split
  · exact Idle.bind (Idle.sizeOf t) fun n => Idle.bind (Idle.loadCellsFrom a n 0 _) fun c => Idle.pure _
  · exact Idle.load _ _
theorem Idle.sureAddr (v : Value) : Idle (Instr.sureAddr v) := by
  unfold Instr.sureAddr
  split
  · exact Idle.pure _
  · exact Idle.stuck _
theorem Idle.loadAt (t : TypeId) (v : Value) : Idle (Instr.loadAt t v) := by
  unfold Instr.loadAt
  exact Idle.bind (Idle.sureAddr v) fun a => Idle.loadVar t a
/-- A computation that never ends well. -/
def Halts {α : Type} (s : Sem α) : Prop := ∀ (P : Program) (w : World), ∃ h w', s.run P w = .halt h w'
theorem Halts.idle {α : Type} {s : Sem α} (h : Halts s) : Idle s := fun P w => .inr (h P w)
theorem Halts.halt {α : Type} (h : Halt) : Halts (Sem.halt h : Sem α) := fun P w => ⟨h, w, rfl⟩
theorem Halts.bind {α β : Type} {x : Sem α} {f : α → Sem β} (hf : ∀ a, Halts (f a)) : Halts (x >>= f) := by
  intro P w
  rw [show (x >>= f) = x.bind f from rfl, Sem.run_bind']
  cases x.run P w with
  | ok a w1 => exact hf a P w1
  | halt h0 w1 => exact ⟨h0, w1, rfl⟩
theorem Idle.runtimePanic {α : Type} (e : RuntimeError) : Idle (runtimePanic e : Sem α) := by
  refine Halts.idle ?_
  unfold Go.runtimePanic
  refine Halts.bind fun p => ?_
  dsimp only
  split
  all_goals first
    | exact Halts.halt _
    | exact Halts.bind fun _ => Halts.bind fun _ => Halts.halt _
theorem Idle.asIntOf (v : Value) : Idle (asIntOf v) := by
  unfold Go.asIntOf
  split
  · exact Idle.pure _
  · exact Idle.unsupported _
  · exact Idle.stuck _
theorem Idle.asBool (v : Value) : Idle (asBool v) := by
  unfold Go.asBool
  split
  · exact Idle.pure _
  · exact Idle.stuck _
theorem Idle.asAddr (v : Value) : Idle (asAddr v) := by
  unfold Go.asAddr
  split
  · exact Idle.pure _
  · exact Idle.runtimePanic _
  · exact Idle.stuck _
theorem Idle.boundsPanic {α : Type} (k : IntKind) (x y : Int) (c : BoundsCode) : Idle (boundsPanic k x y c : Sem α) := by
  refine Halts.idle ?_
  have hr : ∀ e, Halts (Go.runtimePanic e : Sem α) := by
    intro e
    unfold Go.runtimePanic
    refine Halts.bind fun p => ?_
    dsimp only
    split
    all_goals first
      | exact Halts.halt _
      | exact Halts.bind fun _ => Halts.bind fun _ => Halts.halt _
  unfold Go.boundsPanic
  dsimp only
  split <;> exact Halts.bind fun _ => hr _
theorem Idle.sliceBound (x : Value) (y : Nat) (c : BoundsCode) : Idle (Instr.sliceBound x y c) := by
  unfold Instr.sliceBound
  refine Idle.bind (Idle.asIntOf x) fun ki => ?_
  dsimp only
  split
  · exact Idle.pure _
  · exact Idle.boundsPanic _ _ _ _
theorem Idle.sliceBounds (b : Bool) (l c : Nat) (lo hi mx : Option Value) : Idle (Instr.sliceBounds b l c lo hi mx) := by
  unfold Instr.sliceBounds
  dsimp only
  repeat' first
    | exact Idle.pure _
    | exact Idle.stuck _
    | exact Idle.sliceBound _ _ _
    | refine Idle.bind ?_ fun _ => ?_
    | split
theorem Idle.slice (t : TypeId) (x : Value) (lo hi mx : Option Value) : Idle (Instr.slice t x lo hi mx) := by
  unfold Instr.slice
  refine Idle.bind (Idle.underlying t) fun d => ?_
  repeat' first
    | exact Idle.pure _
    | exact Idle.stuck _
    | exact Idle.sliceBounds _ _ _ _ _ _
    | exact Idle.sizeOf _
    | exact Idle.asAddr _
    | exact Idle.underlying _
    | refine Idle.bind ?_ fun _ => ?_
    | split
    | dsimp only
theorem Idle.sliceAt (t : TypeId) (x : Value) (lo hi mx : Option Value) : Idle (Instr.sliceAt t x lo hi mx) := by
  unfold Instr.sliceAt
  refine Idle.bind (Idle.underlying t) fun d => ?_
  split
  · exact Idle.bind (Idle.sureAddr _) fun a => Idle.bind (Idle.sliceBounds _ _ _ _ _ _) fun r => Idle.bind (Idle.sizeOf _) fun s => Idle.pure _
  · exact Idle.slice _ _ _ _ _
theorem Idle.len_ (ts : Array TypeId) (t : TypeId) (xs : Array Value) : Idle (Builtin.len_ ts t xs) := by
  unfold Builtin.len_
  repeat' first
    | exact Idle.pure _
    | exact Idle.stuck _
    | exact Idle.underlying _
    | exact Idle.getObj _
    | exact Idle.unsupported _
    | refine Idle.bind ?_ fun _ => ?_
    | split
    | dsimp only
theorem Idle.min2 (x y : Value) : Idle (Builtin.min2 x y) := by
  unfold Builtin.min2
  repeat' first
    | exact Idle.pure _
    | exact Idle.stuck _
    | exact Idle.unsupported _
    | exact Idle.asBool _
    | exact Idle.choose _
    | refine Idle.bind ?_ fun _ => ?_
    | split
    | (unfold Op.stringOp; dsimp only)
    | dsimp only
theorem Idle.min_ (ts : Array TypeId) (t : TypeId) (xs : Array Value) : Idle (Builtin.min_ ts t xs) := by
  unfold Builtin.min_
  split
  · exact Idle.stuck _
  · rename_i x rest he
    clear he
    generalize x = x0
    induction rest generalizing x0 with
    | nil => exact Idle.pure _
    | cons y r ih => exact Idle.bind (Idle.min2 _ _) fun z => ih z
/-- The kinds of operations of which this file knows that they leave memory alone. -/
def idleB (o : Oper) : Bool :=
  match o.op with
  | .load _ _ => true
  | .slice _ _ _ _ _ => true
  | .move _ => true
  | .assign _ => true
  | .call c => match c.callee with
    | .builtin .len => true
    | .builtin .min => true
    | _ => false
  | _ => false
/-- What an idle operation yields: a value, in a world with the same memory; or it halts. -/
def IdleOp (P : Program) (o : Oper) : Prop := ∀ (ρ : Operand → Value) (w : World), (∃ v w', (execOp ρ o).run P w = .ok (.value v) w' ∧ w'.heap = w.heap) ∨ (∃ h w', (execOp ρ o).run P w = .halt h w')
theorem idle_value {P : Program} {w : World} {s : Sem Value} (h : Idle s) : (∃ v w', (s >>= fun x => Pure.pure (Next.value x)).run P w = .ok (.value v) w' ∧ w'.heap = w.heap) ∨ (∃ h w', (s >>= fun x => Pure.pure (Next.value x)).run P w = .halt h w') := by
  rw [show (s >>= fun x => Pure.pure (Next.value x)) = s.bind fun x => Sem.pure (Next.value x) from rfl, Sem.run_bind']
  rcases h P w with ⟨a, w1, e, h1⟩ | ⟨h0, w1, e⟩
  · rw [e]; exact .inl ⟨a, w1, rfl, h1⟩
  · rw [e]; exact .inr ⟨h0, w1, rfl⟩
theorem idle_op {P : Program} {o : Oper} (h : idleB o = true) : IdleOp P o := by
  intro ρ w
  obtain ⟨dst, op, type, pos, after, guard⟩ := o
  unfold idleB at h
  dsimp only at h
  cases op <;> try (cases h; done)
  case move x => exact .inl ⟨_, w, rfl, rfl⟩
  case assign x => exact .inl ⟨_, w, rfl, rfl⟩
  case load t x => exact idle_value (Idle.loadAt _ _)
  case slice t x lo hi mx => exact idle_value (Idle.sliceAt _ _ _ _ _)
  case call c =>
    obtain ⟨callee, args, argTypes⟩ := c
    dsimp only at h
    cases callee <;> try (cases h; done)
    case builtin b =>
      cases b <;> try (cases h; done)
      case len => exact idle_value (Idle.len_ _ _ _)
      case min => exact idle_value (Idle.min_ _ _ _)
section
variable {P : Program} {ops : Array Oper} {Q : Exit → Act → World → Prop} {md : Region.Mode}
/-- In every world with the memory H the operation yields v and turns nothing. -/
def YieldsH (P : Program) (ops : Array Oper) (H : Array Obj) (o : Oper) (v : Value) (a : Act) : Prop :=
  (Region.wanted o (yielded ops a.tmps) = true ∧ ∀ w, w.heap = H → (execOp a.eval o).run P w = .ok (.value v) w) ∨
  (Region.wanted o (yielded ops a.tmps) = false ∧ v = undef)
theorem YieldsH.wpOp {H : Array Obj} {i : Nat} {o : Oper} {v : Value} {a : Act} (hi : ops[i]? = some o) (hy : YieldsH P ops H o v a)
    {K : Act → World → Prop} {w : World} (hw : w.heap = H) (h : K (a.put o.dst v) w) : wpOp P ops Q i K a w := by
  unfold Go.wpOp
  simp only [hi]
  rcases hy with ⟨hq, hv⟩ | ⟨hq, rfl⟩
  · simp only [hq, if_true, Oper.wp, hv w hw, Oper.upon]; exact .inl h
  · simp only [hq, Bool.false_eq_true, if_false]; exact h
theorem YieldsH.of_same {H : Array Obj} {o : Oper} {v : Value} {a a' : Act} (hy : YieldsH P ops H o v a) (he : execOp a'.eval o = execOp a.eval o)
    (hw : Region.wanted o (yielded ops a'.tmps) = Region.wanted o (yielded ops a.tmps)) : YieldsH P ops H o v a' := by
  unfold YieldsH at *
  rw [he, hw]
  exact hy
theorem wpOp_idle {H : Array Obj} {j : Nat} {oi oj : Oper} {v : Value} (hj : ops[j]? = some oj) (hap : oi.apart ops oj = true) (hid : IdleOp P oj)
    (hsi : ∀ cs b, oi.op ≠ .select cs b) (hsj : ∀ cs b, oj.op ≠ .select cs b)
    (hQ : ∀ c a w, Q (.panic c) (a.put oi.dst v) w → Q (.panic c) a w) {K : Act → World → Prop} {a : Act} {w : World} (hH : w.heap = H)
    (hy : YieldsH P ops H oi v a) (h : wpOp P ops Q j K (a.put oi.dst v) w) :
    wpOp P ops Q j (fun a' w' => YieldsH P ops H oi v a' ∧ w'.heap = H ∧ K (a'.put oi.dst v) w') a w := by
  obtain ⟨h1, h2, h3⟩ := Oper.apart_spec hap
  have keep : ∀ (a : Act), YieldsH P ops H oi v a → ∀ u, YieldsH P ops H oi v (a.put oj.dst u) := fun a hy u =>
    hy.of_same (execOp_put oi hsi a oj.dst u h3) (wanted_put oi a oj.dst u h3)
  unfold wpOp at *
  simp only [hj] at *
  rw [wanted_put oj a oi.dst v h1] at h
  split
  · rename_i hw
    simp only [hw, if_true] at h
    rcases h with h | ⟨hasks, hlets⟩
    case inr => exact .inr ⟨by unfold Oper.asks at *; rw [execOp_put oj hsj a oi.dst v h1] at hasks; exact hasks, hlets⟩
    refine .inl ?_
    unfold Oper.wp at *
    rw [execOp_put oj hsj a oi.dst v h1] at h
    rcases hid a.eval w with ⟨u, w', e, hh⟩ | ⟨x, w', e⟩
    · rw [e] at h ⊢
      simp only [Oper.upon] at h ⊢
      exact ⟨keep a hy u, hh.trans hH, by rw [← Act.put_comm a v u h2]; exact h⟩
    · rw [e] at h ⊢
      cases x <;> simp only [Oper.upon] at h ⊢
      case panic u => exact hQ _ _ _ h
  · rename_i hw
    simp only [hw] at h
    exact ⟨keep a hy _, hH, by rw [← Act.put_comm a v undef h2]; exact h⟩
theorem wpAny_firstH {H : Array Obj} {i : Nat} {oi : Oper} {v : Value} (hi : ops[i]? = some oi) (hsel : ∀ (j : Nat) (o : Oper) cs b, ops[j]? = some o → o.op ≠ .select cs b)
    (hQ : ∀ c a w, Q (.panic c) (a.put oi.dst v) w → Q (.panic c) a w) :
    ∀ (fuel : Nat) (listed : Array Bool) (a : Act) (w : World), w.heap = H →
      (∀ j oj, ops[j]? = some oj → j ≠ i → listed.getD j true = false → (∀ e ∈ oj.after, Region.binds md e = true → e.on ≠ i) → oi.apart ops oj = true ∧ IdleOp P oj) →
      i ∈ Region.ready md ops listed → YieldsH P ops H oi v a →
      wpAny P md ops Q fuel (listed.setIfInBounds i true) (a.put oi.dst v) w → wpAny P md ops Q (fuel + 1) listed a w := by
  intro fuel
  induction fuel with
  | zero =>
    intro listed a w hH _ hr hy H'
    refine ⟨fun h => (by rw [h] at hr; cases hr), fun j hj => ?_⟩
    by_cases hji : j = i
    · subst hji; exact hy.wpOp hi hH H'
    · have := ready_mono hj hji
      rw [H'.1] at this
      cases this
  | succ fuel ih =>
    intro listed a w hH hfree hr hy H'
    refine ⟨fun h => (by rw [h] at hr; cases hr), fun j hj => ?_⟩
    by_cases hji : j = i
    · subst hji; exact hy.wpOp hi hH H'
    · have h1 := H'.2 j (ready_mono hj hji)
      obtain ⟨hjun, oj, hoj, hall⟩ := mem_ready.1 hj
      have hnot : ∀ e ∈ oj.after, Region.binds md e = true → e.on ≠ i := fun e he hb heq => by
        have h1 := hall e he hb
        have h0 := (mem_ready.1 hr).1
        rw [heq] at h1
        rcases Nat.lt_or_ge i listed.size with h' | h'
        · simp [h'] at h0 h1; rw [h0] at h1; cases h1
        · simp [Array.getElem?_eq_none h'] at h1
      have hf := hfree j oj hoj hji hjun hnot
      have h2 := wpOp_idle hoj hf.1 hf.2 (fun cs b => hsel i oi cs b hi) (fun cs b => hsel j oj cs b hoj) hQ hH hy h1
      have hfree' : ∀ k ok, ops[k]? = some ok → k ≠ i → (listed.setIfInBounds j true).getD k true = false →
          (∀ e ∈ ok.after, Region.binds md e = true → e.on ≠ i) → oi.apart ops ok = true ∧ IdleOp P ok := fun k ok hk hki hun hno => by
        refine hfree k ok hk hki ?_ hno
        by_cases hjk : j = k
        · subst hjk; exact hjun
        · rw [getD_set_ne true hjk] at hun; exact hun
      refine wpOp_mono (fun a' w' h3 => ih (listed.setIfInBounds j true) a' w' h3.2.1 hfree' (ready_mono hr (Ne.symm hji)) h3.1 ?_) h2
      rw [Array.setIfInBounds_comm _ _ hji]
      exact h3.2.2
/-- Whatever may come ahead of operation i leaves memory alone. -/
def idleAhead (md : Region.Mode) (ops : Array Oper) (listed : Array Bool) (i : Nat) : Bool :=
  (List.range ops.size).all fun j => j == i || listed.getD j true || match ops[j]? with
    | some oj => oj.after.any (fun e => Region.binds md e && e.on == i) || idleB oj
    | none => true
theorem idleAhead_spec {i : Nat} {listed : Array Bool} (h : idleAhead md ops listed i = true) (j : Nat) (oj : Oper)
    (hj : ops[j]? = some oj) (hne : j ≠ i) (hun : listed.getD j true = false) (hno : ∀ e ∈ oj.after, Region.binds md e = true → e.on ≠ i) : IdleOp P oj := by
  unfold idleAhead at h
  simp only [List.all_eq_true, List.mem_range] at h
  have h1 := h j (Array.getElem?_eq_some_iff.1 hj).1
  simp only [hj, Bool.or_eq_true, beq_iff_eq, hne, false_or, hun, Bool.false_eq_true] at h1
  rcases h1 with h1 | h1
  · obtain ⟨e, he, hb⟩ := Array.any_eq_true'.1 h1
    simp only [Bool.and_eq_true, beq_iff_eq] at hb
    exact absurd hb.2 (hno e he hb.1)
  · exact idle_op h1
/-- A LOAD FIRST: the load of one cell that is known, wherever all that writes waits for it. -/
theorem wpAny_load {i : Nat} {oi : Oper} {v : Value} {fuel : Nat} {listed : Array Bool} {a : Act} {w : World} (hi : ops[i]? = some oi)
    (hs : Region.noSelect ops = true) (hf : Region.free md ops listed i = true) (hr : (Region.ready md ops listed).contains i = true) (hd : idleAhead md ops listed i = true)
    (hQ : ∀ c a w, Q (.panic c) (a.put oi.dst v) w → Q (.panic c) a w) (hgd : oi.guard = none) (t : TypeId) (p : Operand) (hop : oi.op = .load t p) (ad : Addr) (hp : a.eval p = .pointer (some ad))
    (ht : ∀ w, (isAgg t).run P w = .ok false w) (hc : w.cell? ad = some v)
    (h : wpAny P md ops Q fuel (listed.setIfInBounds i true) (a.put oi.dst v) w) : wpAny P md ops Q (fuel + 1) listed a w := by
  refine wpAny_firstH (H := w.heap) hi (Region.noSelect_spec hs) hQ fuel listed a w rfl (fun j oj h1 h2 h3 h4 => ⟨Region.free_spec hi hf j oj h1 h2 h3 h4, idleAhead_spec hd j oj h1 h2 h3 h4⟩) (by simpa using hr) ?_ h
  refine .inl ⟨by simp [Region.wanted, hgd], fun w1 hw1 => ?_⟩
  have hc1 : w1.cell? ad = some v := by
    have : w1.cell? ad = w.cell? ad := by unfold World.cell?; rw [hw1]
    rw [this]; exact hc
  simp only [execOp, hop, hp, Instr.loadAt, Instr.sureAddr, loadVar, Sem.run_bind, Sem.run_pure, Result.andThen_ok, ht]
  simp [load, Sem.run, hc1, Result.andThen]
end
end Go.Proofs.Ytjlmlafiojpjmaa
