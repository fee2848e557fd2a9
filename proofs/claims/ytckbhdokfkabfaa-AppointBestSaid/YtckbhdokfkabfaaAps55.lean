/-
  Chapter 55: what Appoint answers: plain; what a check that passes says.
-/
import Derived.Test.YtckbhdokfkabfaaDay55
set_option linter.unusedSimpArgs false
set_option linter.unusedVariables false
namespace Go.Proofs.Ytckbhdokfkabfaa
open Go.RowKit
set_option maxRecDepth 100000
set_option maxHeartbeats 4000000
def mayD (M : List Dty) (U : List Ump) (d : Int) : List (List Bool) := (dOn M d).map (rowM U)
def lkD (M : List Dty) (U : List Ump) (d : Int) : List Nat × List Int := fillF (mayD M U d) U.length (List.replicate (dOn M d).length 2) 0 (List.replicate U.length (-1)) []
def numAt (D : List Dty) (i : Nat) : Int := (D[i]?.map Dty.m).getD 0
def numsD (M : List Dty) (U : List Ump) (d : Int) : List Int := (outI (lackF (mayD M U d) (lkD M U d).2 (dOn M d).length (lkD M U d).1) (dOn M d).length).map (numAt (dOn M d))
def badB (M : List Dty) (U : List Ump) (d : Int) : Bool := decide ((lkD M U d).1.length ≠ 0)
def badD (M : List Dty) (U : List Ump) : Option Int := (sortL (daysL M)).find? (badB M U)
def pairsD (M : List Dty) (U : List Ump) (d : Int) : List (Int × Int) := dayF (mayD M U d) U.length (dOn M d).length 0 (List.replicate (dOn M d).length 2) (List.replicate U.length (-1))
def putAll (f : Int → Int × Int) (l : List (Int × (Int × Int))) : Int → Int × Int := l.foldl (fun f e i => if i = e.1 then e.2 else f i) f
theorem putAll_snoc (f : Int → Int × Int) (l : List (Int × (Int × Int))) (e : Int × (Int × Int)) : putAll f (l ++ [e]) = fun i => if i = e.1 then e.2 else putAll f l i := by unfold putAll; rw [List.foldl_append]; rfl
def pairL (M : List Dty) (U : List Ump) (ds : List Int) : List (Int × (Int × Int)) := ds.flatMap fun d => ((dOn M d).map Dty.m).zip (pairsD M U d)
def pairF (M : List Dty) (U : List Ump) : Int → Int × Int := putAll (fun _ => (0, 0)) (pairL M U (sortL (daysL M)))
def nmU (U : List Ump) (i : Int) : ByteArray := (U[i.toNat]?.map Ump.nm).getD ⟨#[]⟩
def outE (M : List Dty) (U : List Ump) (x : Dty) : Apd := ⟨x.m, nmU U (pairF M U x.m).1, nmU U (pairF M U x.m).2⟩
def appR (M : List Dty) (U : List Ump) : List Apd × List Int × Int :=
  if ckA M U ≠ 0 then ([], [], ckA M U)
  else match badD M U with
    | some d => ([], numsD M U d, 13)
    | none => (M.map (outE M U), [], 0)
structure CkOk (M : List Dty) (U : List Ump) : Prop where
  ml : M.length ≤ 200
  ul : U.length ≤ 100
  rng : ∀ x ∈ M, 1 ≤ x.m ∧ x.m ≤ 1000000 ∧ 0 ≤ x.d ∧ x.d ≤ 1000000
  asc : ∀ (i : Nat) (x y : Dty), M[i]? = some x → M[i + 1]? = some y → x.m < y.m
  uasc : ∀ (i : Nat) (x y : Ump), U[i]? = some x → U[i + 1]? = some y → slt x.nm y.nm = true
theorem ck_ok {M : List Dty} {U : List Ump} (h : ckA M U = 0) : CkOk M U := by
  unfold ckA at h
  by_cases h1 : 200 < M.length ∨ 100 < U.length
  · rw [if_pos h1] at h; cases h
  · rw [if_neg h1] at h
    by_cases h2 : ckD M = 0
    · rw [if_neg (by simpa using h2)] at h
      have hd := res_zero (f := dErr M) (n := M.length) h2
      have hu := res_zero (f := uErr U) (n := U.length) h
      refine ⟨by omega, by omega, fun x hx => ?_, fun i x y hi hj => ?_, fun i x y hi hj => ?_⟩
      · obtain ⟨k, hk, rfl⟩ := List.getElem_of_mem hx
        have := hd k hk
        unfold dErr at this
        rw [List.getElem?_eq_getElem hk] at this
        dsimp only at this
        unfold errD at this
        split at this
        · cases this
        · rename_i hc
          simp only [isDayB, Bool.or_eq_true, decide_eq_true_eq, Bool.not_eq_true', Bool.and_eq_false_iff, decide_eq_false_iff_not] at hc
          omega
      · have hjl := (List.getElem?_eq_some_iff.1 hj).1
        have := hd (i + 1) hjl
        unfold dErr at this
        rw [hj] at this
        dsimp only at this
        unfold errD at this
        have hb : befD M (i + 1) y = decide (y.m ≤ x.m) := by simp [befD, hi]
        rw [hb] at this
        repeat' split at this
        all_goals first | (cases this; done) | skip
        rename_i hc
        simp at hc
        exact hc
      · have hjl := (List.getElem?_eq_some_iff.1 hj).1
        have := hu (i + 1) hjl
        unfold uErr at this
        rw [hj] at this
        dsimp only at this
        unfold errU at this
        have hb : befU U (i + 1) y = !slt x.nm y.nm := by simp [befU, hi]
        rw [hb] at this
        split at this
        · cases this
        · split at this
          · cases this
          · rename_i hc
            simpa using hc
    · rw [if_pos (by simpa using h2)] at h
      exact (h2 h).elim
theorem wf_i {x : Int} (h1 : 0 ≤ x) (h2 : x ≤ 1000000) : (Lit.int .i64 x).wf = true := by
  simp [Lit.wf, IntKind.min, IntKind.max, IntKind.signed, IntKind.bits]; omega
theorem sortL_mem (l : List Int) (d : Int) : d ∈ sortL l ↔ d ∈ l := by unfold sortL; exact List.mem_mergeSort
theorem sortL_len' (l : List Int) : (sortL l).length = l.length := by unfold sortL; exact List.length_mergeSort l
theorem Try.i64Elem : ElemOf Try.prog iE 1 8 30 2 := .mk' (show (Try.prog.info? 2).map (fun i => (i.zero, i.size, i.bytes)) = some (some (.int .i64 0), 1, 8) by kernel_rfl) rfl Try.underlying30 (by decide) iE_len (fun x u hu => by simp [iE] at hu; subst hu; rfl)
theorem Try.dtElem : ElemOf Try.prog dtE 4 48 22 29 := .mk' (show (Try.prog.info? 29).map (fun i => (i.zero, i.size, i.bytes)) = some (some (.agg #[.int .i64 0, .int .i64 0, .string ⟨#[]⟩, .string ⟨#[]⟩]), 4, 48) by kernel_rfl) rfl Try.underlying22 (by decide) dtE_len (fun x u hu => by simp [dtE] at hu; rcases hu with rfl | rfl | rfl | rfl <;> rfl)
theorem Try.apElem : ElemOf Try.prog apE 3 40 37 43 := .mk' (show (Try.prog.info? 43).map (fun i => (i.zero, i.size, i.bytes)) = some (some (.agg #[.int .i64 0, .string ⟨#[]⟩, .string ⟨#[]⟩]), 3, 40) by kernel_rfl) rfl Try.underlying37 (by decide) apE_len (fun x u hu => by simp [apE] at hu; rcases hu with rfl | rfl | rfl <;> rfl)
/-- The days so far, and the map of the rows. -/
structure DzR (B g : Nat) (F : Int → Value) (l : List Dty) (A9 : Option Addr) (c9 : Nat) (w : World) : Prop where
  dy : DyR B g F l w
  ds : OwnL iE 1 2 B w (.slice A9 (daysL l).length c9) (daysL l)
  ne : ∀ b ∈ adB A9, b ≠ g ∧ ∀ d, (F d).ownBlock ≠ some b
theorem DzR.to {B g : Nat} {F : Int → Value} {l : List Dty} {A9 : Option Addr} {c9 : Nat} {w w' : World} (h : DzR B g F l A9 c9 w) (hb : Below w.heap.size w w') : DzR B g F l A9 c9 w' := ⟨h.dy.to hb, own_below h.ds hb (Nat.le_refl _), h.ne⟩
end Go.Proofs.Ytckbhdokfkabfaa
