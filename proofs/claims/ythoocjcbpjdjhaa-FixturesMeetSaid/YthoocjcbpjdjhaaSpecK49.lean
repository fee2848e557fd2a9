/-
  Chapter 49: Check, as plain functions.
-/
import Derived.Test.YthoocjcbpjdjhaaEarly49
namespace Go.Proofs.Ythoocjcbpjdjhaa
open Go.RowKit

def wildL (f : Fx) (n : Int) (d : Bool) : Bool := decide (f.h < 0 ∨ n ≤ f.h ∨ f.a < 0 ∨ n ≤ f.a ∨ f.r < 0 ∨ roundsN n d ≤ f.r)
def lateL (pre : List Fx) (f : Fx) : Bool := pre.getLast?.any fun p => decide (f.r < p.r)
def clashL (f g : Fx) : Bool := g.r == f.r && (playsL g f.h || playsL g f.a)
/-- The first error of the fixture f behind 'pre'. -/
def fixL (n : Int) (d : Bool) (pre : List Fx) (f : Fx) : Int :=
  if wildL f n d then 2 else if f.h = f.a then 1 else if lateL pre f then 8 else if pre.any (clashL f) then 13 else if pre.any (fun g => againL f g d) then 7 else 0
def fixFrom (n : Int) (d : Bool) : List Fx → List Fx → Int
  | _, [] => 0
  | pre, f :: fs => if fixL n d pre f = 0 then fixFrom n d (pre ++ [f]) fs else fixL n d pre f
def wantN (n : Int) (d : Bool) : Int := if d then (n * (n - 1)).tdiv 2 * 2 else (n * (n - 1)).tdiv 2
def checkL (l : List Fx) (n : Int) (d : Bool) : Int :=
  if n < 2 ∨ 20 < n then 2 else if 400 < l.length then 9 else if fixFrom n d [] l ≠ 0 then fixFrom n d [] l else if (l.length : Int) ≠ wantN n d then 12 else 0

theorem drop_next' {α : Type} {l : List α} {k : Nat} {x : α} (h : l[k]? = some x) : l.drop k = x :: l.drop (k + 1) := by
  obtain ⟨hk, rfl⟩ := List.getElem?_eq_some_iff.1 h
  exact List.drop_eq_getElem_cons hk
theorem fix_now {n : Int} {d : Bool} {l : List Fx} {k : Nat} {f : Fx} (h : l[k]? = some f) : fixFrom n d (l.take k) (l.drop k) = if fixL n d (l.take k) f = 0 then fixFrom n d (l.take (k + 1)) (l.drop (k + 1)) else fixL n d (l.take k) f := by
  rw [drop_next' h, take_next h]; rfl
theorem late_zero {l : List Fx} {f : Fx} : lateL (l.take 0) f = false := by simp [lateL]
theorem late_at {l : List Fx} {k : Nat} {p f : Fx} (h : l[k]? = some p) : lateL (l.take (k + 1)) f = decide (f.r < p.r) := by
  unfold lateL
  rw [take_next h]
  simp
theorem again_ne {f g : Fx} {d : Bool} (h : f.h ≠ f.a) : againL f g d = ((g.h == f.h && g.a == f.a) || (!d && playsL g f.h && playsL g f.a)) := by
  unfold againL playsL
  rw [Bool.eq_iff_iff]
  cases d <;> simp only [Bool.or_eq_true, Bool.and_eq_true, Bool.not_true, Bool.not_false, beq_iff_eq] <;> constructor <;> intro h1 <;> simp at h1 ⊢ <;> omega
theorem fix_wild {n : Int} {d : Bool} {pre : List Fx} {f : Fx} (h : wildL f n d = true) : fixL n d pre f = 2 := by unfold fixL; rw [if_pos h]
theorem fix_same {n : Int} {d : Bool} {pre : List Fx} {f : Fx} (h : wildL f n d = false) (h1 : f.h = f.a) : fixL n d pre f = 1 := by unfold fixL; rw [if_neg (by simp [h]), if_pos h1]
theorem fix_late {n : Int} {d : Bool} {pre : List Fx} {f : Fx} (h : wildL f n d = false) (h1 : f.h ≠ f.a) (h2 : lateL pre f = true) : fixL n d pre f = 8 := by unfold fixL; rw [if_neg (by simp [h]), if_neg h1, if_pos h2]
theorem fix_clash {n : Int} {d : Bool} {pre : List Fx} {f : Fx} (h : wildL f n d = false) (h1 : f.h ≠ f.a) (h2 : lateL pre f = false) (h3 : pre.any (clashL f) = true) : fixL n d pre f = 13 := by unfold fixL; rw [if_neg (by simp [h]), if_neg h1, if_neg (by simp [h2]), if_pos h3]
theorem fix_again {n : Int} {d : Bool} {pre : List Fx} {f : Fx} (h : wildL f n d = false) (h1 : f.h ≠ f.a) (h2 : lateL pre f = false) (h3 : pre.any (clashL f) = false) (h4 : pre.any (fun g => againL f g d) = true) : fixL n d pre f = 7 := by unfold fixL; rw [if_neg (by simp [h]), if_neg h1, if_neg (by simp [h2]), if_neg (by simp [h3]), if_pos h4]
theorem fix_fine {n : Int} {d : Bool} {pre : List Fx} {f : Fx} (h : wildL f n d = false) (h1 : f.h ≠ f.a) (h2 : lateL pre f = false) (h3 : pre.any (clashL f) = false) (h4 : pre.any (fun g => againL f g d) = false) : fixL n d pre f = 0 := by unfold fixL; rw [if_neg (by simp [h]), if_neg h1, if_neg (by simp [h2]), if_neg (by simp [h3]), if_neg (by simp [h4])]
theorem plays_v (r h a t : Int) (v : Bool) (w : World) (hv : playsL ⟨r, h, a⟩ t = v) :
    Calls Try.prog 25 #[.agg #[.int .i64 r, .int .i64 h, .int .i64 a], .int .i64 t] w fun e w' => e = .returned (.bool v) ∧ Below w.heap.size w w' := by
  subst hv; exact plays_f ⟨r, h, a⟩ t w
theorem plays_w (r h a t : Int) (v : Bool) (w : World) (hv : playsL ⟨r, h, a⟩ t = v) :
    Calls Try.prog 31 #[.agg #[.int .i64 r, .int .i64 h, .int .i64 a], .int .i64 t] w fun e w' => e = .returned (.bool v) ∧ Below w.heap.size w w' := by
  subst hv; exact plays_r ⟨r, h, a⟩ t w
/-- An inner loop over what lies before the fixture: none has been met. -/
def AnyI (W : World) (k : Nat) (l : List Fx) (q : Fx → Bool) (i : Value) (wr : World) : Prop :=
  ∃ j : Nat, j ≤ k ∧ i = .int .i64 j ∧ (l.take j).any q = false ∧ Below W.heap.size W wr
theorem AnyI.next {W wr w1 : World} {k j : Nat} {l : List Fx} {q : Fx → Bool} (h : Below W.heap.size W wr) (hb : Below wr.heap.size wr w1) (hj : j < k) (e : (l.take (j + 1)).any q = false) : AnyI W k l q (.int .i64 (j + 1)) w1 :=
  ⟨j + 1, hj, by simp, e, cur_step1 h hb⟩
end Go.Proofs.Ythoocjcbpjdjhaa
