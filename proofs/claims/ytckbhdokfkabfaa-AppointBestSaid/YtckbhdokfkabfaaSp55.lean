/-
  Chapter 55: matches and umpires, their cells, and the first error.
-/
import Derived.Test.YtckbhdokfkabfaaName
import Derived.Test.YtckbhdokfkabfaaSpec54
import Derived.Test.YtckbhdokfkabfaaStr
import Derived.Test.YtckbhdokfkabfaaAppL
import Derived.Deep.DeepCutAuto
import Derived.Deep.CutBlock
import Derived.Deep.RegionHeld3
import Derived.Deep.QuietTactic
import Derived.BigGuard
import Derived.BigQuiet
import Derived.StillTailTactics
import Derived.Maps.OwnOps
import Derived.Maps.Views
set_option linter.unusedSimpArgs false
set_option linter.unusedVariables false
namespace Go.Proofs.Ytckbhdokfkabfaa
open Go.RowKit
set_option maxRecDepth 100000
set_option maxHeartbeats 1000000
structure Dty where
  m : Int
  d : Int
  h : ByteArray
  a : ByteArray
structure Ump where
  nm : ByteArray
  tm : ByteArray
  ds : List Int
  a : Option Addr
  c : Nat
structure Apd where
  m : Int
  one : ByteArray
  two : ByteArray
def dtE (x : Dty) : List Value := [.int .i64 x.m, .int .i64 x.d, .string x.h, .string x.a]
def umE (y : Ump) : List Value := [.string y.nm, .string y.tm, .slice y.a y.ds.length y.c]
def apE (z : Apd) : List Value := [.int .i64 z.m, .string z.one, .string z.two]
def iE (n : Int) : List Value := [.int .i64 n]
theorem dtE_len (x : Dty) : (dtE x).length = 4 := rfl
theorem umE_len (y : Ump) : (umE y).length = 3 := rfl
theorem apE_len (z : Apd) : (apE z).length = 3 := rfl
theorem iE_len (n : Int) : (iE n).length = 1 := rfl
theorem dt_info : (Try.prog.info? 29).map (·.size) = some 4 := by kernel_rfl
theorem um_info : (Try.prog.info? 32).map (·.size) = some 3 := by kernel_rfl
theorem ap_info : (Try.prog.info? 43).map (·.size) = some 3 := by kernel_rfl
theorem dt_one (x : Dty) : (dtE x).toArray.all (·.oneCell') = true := by simp [dtE, Value.oneCell']
theorem um_one (y : Ump) : (umE y).toArray.all (·.oneCell') = true := by simp [umE, Value.oneCell']
theorem ap_one (z : Apd) : (apE z).toArray.all (·.oneCell') = true := by simp [apE, Value.oneCell']
/-- Strings of a length that there can be. -/
def DtS (x : Dty) : Prop := x.h.size ≤ 9223372036854775807 ∧ x.a.size ≤ 9223372036854775807
def UmS (y : Ump) : Prop := y.nm.size ≤ 9223372036854775807 ∧ y.tm.size ≤ 9223372036854775807 ∧ y.ds.length ≤ 1000000
/-- Umpires in memory, with their days. -/
structure UmR (w : World) (U : Option Addr) (us : List Ump) : Prop where
  rd : Rd umE 3 w w.heap.size U us
  ds : ∀ y ∈ us, Rd iE 1 w w.heap.size y.a y.ds
theorem UmR.to {w w' : World} {U : Option Addr} {us : List Ump} (h : UmR w U us) (hb : Below w.heap.size w w') : UmR w' U us := ⟨h.rd.to hb, fun y hy => (h.ds y hy).to hb⟩
/-! The first error -/
def befD (M : List Dty) (i : Nat) (x : Dty) : Bool := match i with
  | 0 => false
  | j + 1 => match M[j]? with
    | some y => decide (x.m ≤ y.m)
    | none => false
def errD (M : List Dty) (i : Nat) (x : Dty) : Int :=
  if (decide (x.m < 1) || decide (1000000 < x.m) || !isDayB x.d) = true then 2
  else if (!nameB x.h || !nameB x.a) = true then 5
  else if seq x.h x.a = true then 1
  else if befD M i x = true then 8 else 0
def dErr (M : List Dty) (i : Nat) : Int := match M[i]? with
  | some x => errD M i x
  | none => 0
def ckD (M : List Dty) : Int := resW (dErr M) (scan (dErr M) M.length)
def befN (ds : List Int) (k : Nat) (n : Int) : Bool := match k with
  | 0 => false
  | j + 1 => match ds[j]? with
    | some y => decide (n ≤ y)
    | none => false
def nErr (ds : List Int) (k : Nat) : Int := match ds[k]? with
  | some n => if isDayB n = false then 2 else if befN ds k n = true then 8 else 0
  | none => 0
def ckN (ds : List Int) : Int := resW (nErr ds) (scan (nErr ds) ds.length)
def befU (U : List Ump) (i : Nat) (y : Ump) : Bool := match i with
  | 0 => false
  | j + 1 => match U[j]? with
    | some z => !slt z.nm y.nm
    | none => false
def errU (U : List Ump) (i : Nat) (y : Ump) : Int :=
  if (!nameB y.nm || (!isE y.tm && !nameB y.tm)) = true then 5
  else if befU U i y = true then 8
  else if 400 < y.ds.length then 9
  else ckN y.ds
def uErr (U : List Ump) (i : Nat) : Int := match U[i]? with
  | some y => errU U i y
  | none => 0
def ckU (U : List Ump) : Int := resW (uErr U) (scan (uErr U) U.length)
def ckA (M : List Dty) (U : List Ump) : Int :=
  if 200 < M.length ∨ 100 < U.length then 9 else if ckD M ≠ 0 then ckD M else ckU U
theorem res_of {f : Nat → Int} {n k : Nat} (hno : ∀ j, j < k → f j = 0) (hk : k < n) (he : f k ≠ 0) : resW f (scan f n) = f k := by
  rw [scan_some hno he hk]; rfl
theorem res_end {f : Nat → Int} {n : Nat} (hno : ∀ j, j < n → f j = 0) : resW f (scan f n) = 0 := by
  rw [scan_none hno]; rfl
theorem res_zero {f : Nat → Int} {n : Nat} (h : resW f (scan f n) = 0) : ∀ j, j < n → f j = 0 := by
  cases e : scan f n with
  | none => exact scan_inv e
  | some k => rw [e] at h; exact (scan_ne e h).elim
/-! Who may stand -/
def mayB (x : Dty) (y : Ump) : Bool := y.ds.any (fun n => n == x.d) && (isE y.tm || (!seq y.tm x.h && !seq y.tm x.a))
theorem dt_cells {w : World} {b off k : Nat} {x : Dty} (h : ∀ j u, (dtE x)[j]? = some u → w.cell? ⟨b, off + k * 4 + j, none⟩ = some u) : w.cell? ⟨b, off + k * 4, none⟩ = some (.int .i64 x.m) ∧ w.cell? ⟨b, off + k * 4 + 1, none⟩ = some (.int .i64 x.d) ∧ w.cell? ⟨b, off + k * 4 + 2, none⟩ = some (.string x.h) ∧ w.cell? ⟨b, off + k * 4 + 3, none⟩ = some (.string x.a) :=
  ⟨by simpa using h 0 _ rfl, h 1 _ rfl, h 2 _ rfl, h 3 _ rfl⟩
theorem um_cells {w : World} {b off k : Nat} {y : Ump} (h : ∀ j u, (umE y)[j]? = some u → w.cell? ⟨b, off + k * 3 + j, none⟩ = some u) : w.cell? ⟨b, off + k * 3, none⟩ = some (.string y.nm) ∧ w.cell? ⟨b, off + k * 3 + 1, none⟩ = some (.string y.tm) ∧ w.cell? ⟨b, off + k * 3 + 2, none⟩ = some (.slice y.a y.ds.length y.c) :=
  ⟨by simpa using h 0 _ rfl, h 1 _ rfl, h 2 _ rfl⟩
theorem ap_cells {w : World} {b off k : Nat} {z : Apd} (h : ∀ j u, (apE z)[j]? = some u → w.cell? ⟨b, off + k * 3 + j, none⟩ = some u) : w.cell? ⟨b, off + k * 3, none⟩ = some (.int .i64 z.m) ∧ w.cell? ⟨b, off + k * 3 + 1, none⟩ = some (.string z.one) ∧ w.cell? ⟨b, off + k * 3 + 2, none⟩ = some (.string z.two) :=
  ⟨by simpa using h 0 _ rfl, h 1 _ rfl, h 2 _ rfl⟩
end Go.Proofs.Ytckbhdokfkabfaa
