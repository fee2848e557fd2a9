/-
  A region that draws nothing, parted behind some of its operations: what the first ones leave is said once.
-/
import Derived.Test.YtdbiihfoafoljaaGreatDoorBase
set_option linter.unusedSimpArgs false
set_option linter.unusedVariables false
namespace Go.Proofs.YtdbiihfoafoljaaGreatDoor
open Go.RowKit
theorem oper_mono2 {P : Program} {o : Oper} {a : Act} {w : World} {K K' : Act → World → Prop} {Q Q' : Exit → Act → World → Prop} (h : ∀ a w, K a w → K' a w) (hq : ∀ e a w, e ≠ .normal → Q e a w → Q' e a w)
    (hh : o.wp P a w K Q) : o.wp P a w K' Q' := by
  unfold Oper.wp at *
  generalize (execOp a.eval o).run P w = r at *
  cases r with
  | ok n w' =>
    cases n <;> simp only [Oper.upon] at hh ⊢ <;>
      first
        | exact h _ _ hh
        | exact Calls.mono hh (fun e w'' he => by
            cases e
            · exact h _ _ he
            · exact hq _ _ _ (by simp) he
            · exact he.imp fun a he => he.imp fun w he => hq _ _ _ (by simp) he)
        | exact Rows.mono hh (fun _ _ he => h _ _ he)
  | halt x w' =>
    cases x <;> simp only [Oper.upon] at hh ⊢ <;> first | exact hq _ _ _ (by simp) hh | exact hh
theorem wpList_to {P : Program} {ops : Array Oper} {Q : Exit → Act → World → Prop} {J : Act → World → Prop} {l2 : List Oper} (h2 : ∀ a w, J a w → wpList P ops Q l2 a w) :
    ∀ (l1 : List Oper) (a : Act) (w : World), wpList P ops (Exit.then J Q) l1 a w → wpList P ops Q (l1 ++ l2) a w
  | [], a, w, h => h2 a w h
  | o :: r, a, w, h => by
    show wpList P ops Q (o :: (r ++ l2)) a w
    unfold wpList at h ⊢
    split
    · next hw =>
      rw [if_pos hw] at h
      rcases h with h | ⟨h, h'⟩
      · exact .inl (oper_mono2 (fun a w hk => wpList_to h2 r a w hk) (fun e a w hn hq => by cases e <;> first | exact absurd rfl hn | exact hq) h)
      · exact .inr ⟨h, h'⟩
    · next hw =>
      rw [if_neg hw] at h
      exact wpList_to h2 r _ _ h
theorem wpList_cut {P : Program} {ops : Array Oper} {Q : Exit → Act → World → Prop} {l1 l2 : List Oper} {a : Act} {w : World} (R : Act → World → Prop) (h1 : ∀ J : Act → World → Prop, (∀ a w, R a w → J a w) → wpList P ops (Exit.then J Q) l1 a w)
    (h2 : ∀ a w, R a w → wpList P ops Q l2 a w) : wpList P ops Q (l1 ++ l2) a w := wpList_to h2 l1 a w (h1 R fun _ _ h => h)
theorem wpList_cut_at (n : Nat) {P : Program} {ops : Array Oper} {Q : Exit → Act → World → Prop} {l : List Oper} {a : Act} {w : World} (R : Act → World → Prop) (h1 : ∀ J : Act → World → Prop, (∀ a w, R a w → J a w) → wpList P ops (Exit.then J Q) (l.take n) a w)
    (h2 : ∀ a w, R a w → wpList P ops Q (l.drop n) a w) : wpList P ops Q l a w := by
  have := wpList_cut (l1 := l.take n) (l2 := l.drop n) R h1 h2
  rwa [List.take_append_drop] at this
theorem wpList_skip {P : Program} {ops : Array Oper} {Q : Exit → Act → World → Prop} {o : Oper} {rest : List Oper} {a : Act} {w : World} (h : Region.wanted o (yielded ops a.tmps) = false) (k : wpList P ops Q rest (a.put o.dst undef) w) : wpList P ops Q (o :: rest) a w := by
  unfold wpList
  rw [if_neg (by rw [h]; decide)]
  exact k
end Go.Proofs.YtdbiihfoafoljaaGreatDoor
