/-
  Regions in a round of a range over a function: an operation that is no 'defer' is carried out as in a plain frame.
-/
import Derived.Test.YtpninpohligomaaGreatDoorApp
import Derived.RangeFuncCalls
import Derived.OrdersIn
import Derived.OwnWalkIn
set_option linter.unusedSimpArgs false
set_option linter.unusedVariables false
namespace Go.Proofs.YtpninpohligomaaGreatDoor
open Go.RowKit
variable {n l : Nat} {P : Program} {Q : Exit → Act → World → Prop}
theorem inR {f : FuncId} {args : Array Value} {w : World} {R : Ending → World → Prop} (h : Calls P f args w R) : CallsIn (Fence.wide.inRound l) n P f args w R := CallsIn.inRound l (callsIn_wide.2 h)
def noDefer (o : Oper) : Bool := match o.op with
  | .defer _ => false
  | _ => true
theorem noDefer_ne {o : Oper} (h : noDefer o = true) : ∀ c, o.op ≠ .defer c := by
  intro c e
  unfold noDefer at h
  rw [e] at h
  cases h
theorem upon_inRound {o : Oper} {a : Act} {K : Act → World → Prop} {r : Result Next} (h : o.uponIn Fence.wide n P a K Q r) : o.uponIn (Fence.wide.inRound l) n P a K Q r := by
  cases r with
  | ok x w' => cases x <;> exact h
  | halt x w' => cases x <;> exact h
theorem wpIn_inRound {o : Oper} (ho : noDefer o = true) {a : Act} {w : World} {K : Act → World → Prop} (h : o.wpIn Fence.wide n P a w K Q) : o.wpIn (Fence.wide.inRound l) n P a w K Q := by
  unfold Oper.wpIn at h ⊢
  refine ⟨h.1, ?_⟩
  have h2 := h.2
  rw [Oper.semAt_plain _ _ _ (noDefer_ne ho)] at h2 ⊢
  exact upon_inRound h2
theorem wpAnyIn_inRound {md : Region.Mode} {ops : Array Oper} (hnd : ops.toList.all noDefer = true) : ∀ (fuel : Nat) (listed : Array Bool) (a : Act) (w : World), wpAnyIn Fence.wide n P md ops Q fuel listed a w → wpAnyIn (Fence.wide.inRound l) n P md ops Q fuel listed a w := by
  intro fuel
  induction fuel with
  | zero => intro listed a w h; exact h
  | succ fuel ih =>
    intro listed a w h
    refine ⟨h.1, fun i hi => ?_⟩
    have h2 := wpOpIn_mono (fun a w => ih _ a w) (h.2 i hi)
    unfold wpOpIn at h2 ⊢
    cases ho : ops[i]? with
    | none => rw [ho] at h2; exact h2
    | some o =>
      rw [ho] at h2
      have hm : noDefer o = true := by
        rw [List.all_eq_true] at hnd
        refine hnd o ?_
        obtain ⟨h3, rfl⟩ := Array.getElem?_eq_some_iff.1 ho
        simp
      simp only [] at h2 ⊢
      split
      · rename_i hw
        rw [if_pos hw] at h2
        exact wpIn_inRound hm h2
      · rename_i hw
        rw [if_neg hw] at h2
        exact h2
theorem wpIn_region_rnd {id : Nat} {ops : Array Oper} {a : Act} {w : World} (hm : P.follows .mixedOrders = true) (hnd : ops.toList.all noDefer = true)
    (h : wpAnyIn Fence.wide n P .any ops Q ops.size (Array.replicate ops.size false) a w.drew) : (Code.region id ops true).wpIn (Fence.wide.inRound l) n P Q a w :=
  wpIn_region_any hm (wpAnyIn_inRound hnd _ _ _ _ h)
/-- A guarded operation that is passed over, in a fence that lets every function in. -/
theorem wpListIn_pass {F : Fence} {ops : Array Oper} {rest : List Oper} {o : Oper} {a : Act} {w : World} (h : Region.wanted o (yielded ops a.tmps) = false) (hF : ∀ f, F.fn f) (hK : wpListIn F n P ops Q rest (a.put o.dst undef) w) : wpListIn F n P ops Q (o :: rest) a w := by
  unfold wpListIn
  rw [if_neg (by rw [h]; decide)]
  exact ⟨fun f _ => hF f, hK⟩
/-- append, as an operation inside a fence. -/
theorem wpIn_app1 {F : Fence} {α : Type} {enc : α → List Value} {size bytes : Nat} {t e : TypeId} (E : ElemOf P enc size bytes t e) (w : World) {o : Oper} {a : Act} {K : Act → World → Prop} (s x : Operand)
    (ho : o.op = .call { callee := .builtin .append, args := #[s, x], argTypes := #[t, t] }) (base : Nat) (A : Option Addr) (c : Nat) (ls : List α) (hs : a.eval s = .slice A ls.length c) (hown : OwnL enc size e base w (.slice A ls.length c) ls)
    (f : α) (b c2 : Nat) (hx : a.eval x = .slice (some ⟨b, 0, none⟩) 1 c2) (hb : w.heap[b]? = some (.cells (enc f).toArray e (0, 0))) (h63 : ls.length + 1 ≤ maxLen) (hbytes : (ls.length + 1) * bytes ≤ 140737488355328) (hbase : base ≤ w.heap.size)
    (h : ∀ g cap w', App w w' base e size (.slice A ls.length c) g cap ls.length 1 (ls.flatMap enc) (enc f) → K (a.put o.dst (.slice (some ⟨g, 0, none⟩) (ls.length + 1) cap)) w') : Oper.wpIn F n P o a w K Q := by
  obtain ⟨z, i, hi, hz, hsz, hby, hzs⟩ := E.info
  obtain ⟨g, cap, w', hr, h2⟩ := run_app (P := P) w t o.type base e i z size bytes E.ty hi hz hsz hby hzs E.pos _ ls.length _ hown ⟨b, 0, none⟩ 1 c2 (enc f) (by rw [E.len]; simp) (cells_block hb) (E.one f) (by omega) h63 hbytes hbase
  unfold Oper.wpIn
  refine ⟨?_, ?_⟩
  · simp [Oper.about, ho, resolve, Target.leads, Sem.run_pure]
  · rw [Oper.semAt_plain F _ _ (by rw [ho]; intro c hc'; cases hc')]
    simp [execOp, ho, resolve, invoke, builtin, hs, hx, hr, Result.andThen]
    exact h g cap w' h2
theorem wpListIn_app1 {F : Fence} {α : Type} {enc : α → List Value} {size bytes : Nat} {t e : TypeId} (E : ElemOf P enc size bytes t e) (w : World) {ops : Array Oper} {rest : List Oper} {o : Oper} {a : Act} (hgd : o.guard = none) (s x : Operand)
    (ho : o.op = .call { callee := .builtin .append, args := #[s, x], argTypes := #[t, t] }) (base : Nat) (A : Option Addr) (c : Nat) (ls : List α) (hs : a.eval s = .slice A ls.length c) (hown : OwnL enc size e base w (.slice A ls.length c) ls)
    (f : α) (b c2 : Nat) (hx : a.eval x = .slice (some ⟨b, 0, none⟩) 1 c2) (hb : w.heap[b]? = some (.cells (enc f).toArray e (0, 0))) (h63 : ls.length + 1 ≤ maxLen) (hbytes : (ls.length + 1) * bytes ≤ 140737488355328) (hbase : base ≤ w.heap.size)
    (h : ∀ g cap w', App w w' base e size (.slice A ls.length c) g cap ls.length 1 (ls.flatMap enc) (enc f) → wpListIn F n P ops Q rest (a.put o.dst (.slice (some ⟨g, 0, none⟩) (ls.length + 1) cap)) w') : wpListIn F n P ops Q (o :: rest) a w :=
  wpListIn_plain hgd fun _ hK => wpIn_app1 E w s x ho base A c ls hs hown f b c2 hx hb h63 hbytes hbase fun g cap w' h2 => hK _ _ (h g cap w' h2)
/-- append, as a step of a region inside a fence. -/
theorem stepIn_app1 {F : Fence} {α : Type} {enc : α → List Value} {size bytes : Nat} {t e : TypeId} (E : ElemOf P enc size bytes t e) (w : World) {ops : Array Oper} {o : Oper} {a : Act} {K : Act → World → Prop} {X : Prop} (hgd : o.guard = none) (s x : Operand)
    (ho : o.op = .call { callee := .builtin .append, args := #[s, x], argTypes := #[t, t] }) (base : Nat) (A : Option Addr) (c : Nat) (ls : List α) (hs : a.eval s = .slice A ls.length c) (hown : OwnL enc size e base w (.slice A ls.length c) ls)
    (f : α) (b c2 : Nat) (hx : a.eval x = .slice (some ⟨b, 0, none⟩) 1 c2) (hb : w.heap[b]? = some (.cells (enc f).toArray e (0, 0))) (h63 : ls.length + 1 ≤ maxLen) (hbytes : (ls.length + 1) * bytes ≤ 140737488355328) (hbase : base ≤ w.heap.size)
    (h : ∀ g cap w', App w w' base e size (.slice A ls.length c) g cap ls.length 1 (ls.flatMap enc) (enc f) → K (a.put o.dst (.slice (some ⟨g, 0, none⟩) (ls.length + 1) cap)) w') :
    if Region.wanted o (yielded ops a.tmps) = true then Oper.wpIn F n P o a w K Q else X := by
  have hw : Region.wanted o (yielded ops a.tmps) = true := by simp [Region.wanted, hgd]
  rw [if_pos hw]
  obtain ⟨z, i, hi, hz, hsz, hby, hzs⟩ := E.info
  obtain ⟨g, cap, w', hr, h2⟩ := run_app (P := P) w t o.type base e i z size bytes E.ty hi hz hsz hby hzs E.pos _ ls.length _ hown ⟨b, 0, none⟩ 1 c2 (enc f) (by rw [E.len]; simp) (cells_block hb) (E.one f) (by omega) h63 hbytes hbase
  unfold Oper.wpIn
  refine ⟨?_, ?_⟩
  · simp [Oper.about, ho, resolve, Target.leads, Sem.run_pure]
  · rw [Oper.semAt_plain F _ _ (by rw [ho]; intro c hc'; cases hc')]
    simp [execOp, ho, resolve, invoke, builtin, hs, hx, hr, Result.andThen]
    exact h g cap w' h2
end Go.Proofs.YtpninpohligomaaGreatDoor
