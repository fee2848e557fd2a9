/-
  Chapter 49: what the functions compute, in plain words over lists and integers.
-/
import Derived.Test.YthoocjcbpjdjhaaBase
namespace Go.Proofs.Ythoocjcbpjdjhaa
open Go.RowKit

structure Fx where
  r : Int
  h : Int
  a : Int
deriving DecidableEq

structure Pf where
  f : Fx
  d : Int
  g : Int
deriving DecidableEq

def Fx.val (f : Fx) : Value := .agg #[.int .i64 f.r, .int .i64 f.h, .int .i64 f.a]
def fxE (f : Fx) : List Value := [.int .i64 f.r, .int .i64 f.h, .int .i64 f.a]
def pfE (p : Pf) : List Value := [.int .i64 p.f.r, .int .i64 p.f.h, .int .i64 p.f.a, .int .i64 p.d, .int .i64 p.g]
def inE (x : Int) : List Value := [.int .i64 x]
theorem fxE_len (x : Fx) : (fxE x).length = 3 := rfl
theorem pfE_len (x : Pf) : (pfE x).length = 5 := rfl
theorem inE_len (x : Int) : (inE x).length = 1 := rfl

theorem rdFx {w wr : World} {B k : Nat} {A : Option Addr} {l : List Fx} {x : Fx} (h : Rd fxE 3 w B A l) (hb : Below B w wr) (hx : l[k]? = some x) :
    ∃ b off, A = some ⟨b, off, none⟩ ∧ b < B ∧ wr.cell? ⟨b, off + k * 3, none⟩ = some (.int .i64 x.r) ∧ wr.cell? ⟨b, off + k * 3 + 1, none⟩ = some (.int .i64 x.h) ∧ wr.cell? ⟨b, off + k * 3 + 2, none⟩ = some (.int .i64 x.a) := by
  obtain ⟨b, off, e, hlt, hc⟩ := h.at_ hb hx
  exact ⟨b, off, e, hlt, hc 0 _ rfl, hc 1 _ rfl, hc 2 _ rfl⟩
theorem rdPf {w wr : World} {B k : Nat} {A : Option Addr} {l : List Pf} {x : Pf} (h : Rd pfE 5 w B A l) (hb : Below B w wr) (hx : l[k]? = some x) :
    ∃ b off, A = some ⟨b, off, none⟩ ∧ b < B ∧ wr.cell? ⟨b, off + k * 5, none⟩ = some (.int .i64 x.f.r) ∧ wr.cell? ⟨b, off + k * 5 + 1, none⟩ = some (.int .i64 x.f.h) ∧ wr.cell? ⟨b, off + k * 5 + 2, none⟩ = some (.int .i64 x.f.a) ∧
      wr.cell? ⟨b, off + k * 5 + 3, none⟩ = some (.int .i64 x.d) ∧ wr.cell? ⟨b, off + k * 5 + 4, none⟩ = some (.int .i64 x.g) := by
  obtain ⟨b, off, e, hlt, hc⟩ := h.at_ hb hx
  exact ⟨b, off, e, hlt, hc 0 _ rfl, hc 1 _ rfl, hc 2 _ rfl, hc 3 _ rfl, hc 4 _ rfl⟩
theorem rdIn {w wr : World} {B k : Nat} {A : Option Addr} {l : List Int} {x : Int} (h : Rd inE 1 w B A l) (hb : Below B w wr) (hx : l[k]? = some x) :
    ∃ b off, A = some ⟨b, off, none⟩ ∧ b < B ∧ wr.cell? ⟨b, off + k, none⟩ = some (.int .i64 x) := by
  obtain ⟨b, off, e, hlt, hc⟩ := h.at_ hb hx
  exact ⟨b, off, e, hlt, by simpa using hc 0 _ rfl⟩

theorem ret_bool {a b : Bool} (h : a = b) : Ending.returned (.bool a) = .returned (.bool b) := by rw [h]
theorem ret_int {k : IntKind} {a b : Int} (h : a = b) : Ending.returned (.int k a) = .returned (.int k b) := by rw [h]
theorem val_int {k : IntKind} {a b : Int} (h : a = b) : Value.int k a = .int k b := by rw [h]

def playsL (f : Fx) (t : Int) : Bool := f.h == t || f.a == t
def takenL (l : List Pf) (g d : Int) : Bool := l.any fun p => p.g == g && p.d == d
def knownL (f : Fx) (n : Nat) : Bool := decide (0 ≤ f.h) && decide (f.h < n) && decide (0 ≤ f.a) && decide (f.a < n) && !(f.h == f.a)
def badGround (g : Int) : Bool := decide (g < 0) || decide (20 ≤ g)
def seasonL (n : Int) (first rest : Int) (gr : List Int) : Int :=
  if 400 < n ∨ 20 < (gr.length : Int) then 9 else if first < 0 ∨ 109572 < first ∨ rest < 0 ∨ 400 < rest then 2 else if gr.any badGround then 2 else 0
def earlyL (f : Fx) (rest : Int) (day : Int) (l : List Pf) : Int := l.foldl (fun day q => if playsL q.f f.h || playsL q.f f.a then max day (q.d + rest + 1) else day) day
def homesL (l : List Fx) (t : Int) : Int := (l.filter fun f => f.h == t).length
def roundsN (n : Int) (double : Bool) : Int := if double then 2 * (n + n % 2 - 1) else n + n % 2 - 1
def againL (a b : Fx) (double : Bool) : Bool := (a.h == b.h && a.a == b.a) || (!double && (a.h == b.a && a.a == b.h))
end Go.Proofs.Ythoocjcbpjdjhaa
