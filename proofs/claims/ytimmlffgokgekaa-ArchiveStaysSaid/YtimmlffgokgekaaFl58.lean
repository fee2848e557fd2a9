/-
  Chapter 58: the three files of a merge; rows of numbers and of clashes.
-/
import Derived.Test.YtimmlffgokgekaaSoC58
set_option linter.unusedSimpArgs false
set_option linter.unusedVariables false
namespace Go.Proofs.Ytimmlffgokgekaa
open Go.RowKit
set_option maxRecDepth 100000
set_option maxHeartbeats 4000000
theorem Try.infoI64 : (Try.prog.info? 2).map (fun i => (i.zero, i.size, i.bytes)) = some (some (.int .i64 0), 1, 8) := by kernel_rfl
theorem Try.i64Elem : ElemOf Try.prog inE 1 8 80 2 := .mk' Try.infoI64 rfl Try.underlying80 (by decide) inE_len (fun x u hu => by simp [inE] at hu; subst hu; rfl)
theorem Try.infoCl : (Try.prog.info? 42).map (fun i => (i.zero, i.size, i.bytes)) = some (some (.agg #[.int .i64 0]), 1, 8) := by kernel_rfl
theorem Try.clElem : ElemOf Try.prog inE 1 8 25 42 := .mk' Try.infoCl rfl Try.underlying25 (by decide) inE_len (fun x u hu => by simp [inE] at hu; subst hu; rfl)
/-- A file as it is handed over. -/
structure Fl where
  a : Option Addr
  c : Nat
  l : List Ent
def flV (f : Fl) : Value := .slice f.a f.l.length f.c
def flI (fl : List Fl) : List Int := fl.flatMap fun f => f.l.map Ent.id
theorem flI_next {fl : List Fl} {k : Nat} {f : Fl} (h : fl[k]? = some f) : flI (fl.take (k + 1)) = flI (fl.take k) ++ f.l.map Ent.id := by
  unfold flI
  rw [List.take_add_one, h, List.flatMap_append]
  simp
/-- What the files answer, one behind the other. -/
def flE : List Fl → Int
  | [] => 0
  | f :: r => if chkA f.l ≠ 0 then chkA f.l else flE r
theorem flE_first {fl : List Fl} {k : Nat} {f : Fl} (h : fl[k]? = some f) (h0 : ∀ g ∈ fl.take k, chkA g.l = 0) (hc : chkA f.l ≠ 0) : flE fl = chkA f.l := by
  induction fl generalizing k with
  | nil => simp at h
  | cons g r ih =>
    cases k with
    | zero => simp at h; subst h; unfold flE; rw [if_pos hc]
    | succ k =>
      simp at h
      have := h0 g (by simp)
      unfold flE
      rw [if_neg (by simpa using this)]
      exact ih h (fun x hx => h0 x (by simp [hx]))
theorem flE_zero {fl : List Fl} (h : ∀ g ∈ fl, chkA g.l = 0) : flE fl = 0 := by
  induction fl with
  | nil => rfl
  | cons g r ih =>
    unfold flE
    rw [if_neg (by simpa using h g (by simp))]
    exact ih fun x hx => h x (by simp [hx])
theorem flI_len {fl : List Fl} {n : Nat} (h : (flI fl).length ≤ n) (k : Nat) : (flI (fl.take k)).length ≤ n := by
  unfold flI at *
  refine Nat.le_trans ?_ h
  have : fl = fl.take k ++ fl.drop k := (List.take_append_drop k fl).symm
  conv => rhs; rw [this, List.flatMap_append, List.length_append]
  omega
end Go.Proofs.Ytimmlffgokgekaa
