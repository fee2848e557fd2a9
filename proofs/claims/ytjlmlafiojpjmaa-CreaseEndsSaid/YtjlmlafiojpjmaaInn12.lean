/-
  Chapter 12: the state of an innings as a value.
-/
import Derived.Test.YtjlmlafiojpjmaaClone12
import Derived.Test.YtjlmlafiojpjmaaStr
import Derived.RegionTactic
import Derived.BigRegion
import Derived.BigQuiet
import Derived.Deep.RegionWith
namespace Go.Proofs.Ytjlmlafiojpjmaa
open Go.RowKit

/-- What the layer leaves alone. -/
structure Rst where
  a0 : Int
  a1 : Int
  a2 : Int
  a3 : Int
  e0 : Int
  e1 : Int
  e2 : Int
  e3 : Int
  e4 : Int
  c1 : Int
  c2 : Int
  bw : Int
  ba : Int
  kp : Int
  os : Int
  r1 : Int
  r2 : Int
  en : Int
  fr : Bool
  fh : Bool
/-- The 28 cells of an innings without lists of bowlers and substitutes. -/
def innL (r : Rst) (wk st ot : Int) (B : Value) : List Value :=
  [(.int .i64 r.a0), (.int .i64 r.a1), (.int .i64 r.a2), (.int .i64 r.a3), (.int .i64 wk), (.int .i64 r.e0), (.int .i64 r.e1), (.int .i64 r.e2), (.int .i64 r.e3), (.int .i64 r.e4), (.int .i64 r.c1), (.int .i64 r.c2), (.int .i64 st), (.int .i64 ot), B, (.int .i64 r.bw), (.slice none 0 0), (.slice none 0 0), (.bool r.fr), (.slice none 0 0), (.bool r.fh), (.int .i64 r.ba), (.int .i64 r.kp), (.int .i64 r.os), (.slice none 0 0), (.int .i64 r.r1), (.int .i64 r.r2), (.int .u8 r.en)]
abbrev innV (r : Rst) (wk st ot : Int) (B : Value) : Value := .agg (innL r wk st ot B).toArray
theorem inn_cells {w : World} {g : Nat} {r : Rst} {wk st ot : Int} {B : Value} (h : Blk w g 32 (innL r wk st ot B)) : w.cell? ⟨g, 0, none⟩ = some (.int .i64 r.a0) ∧ w.cell? ⟨g, 1, none⟩ = some (.int .i64 r.a1) ∧ w.cell? ⟨g, 2, none⟩ = some (.int .i64 r.a2) ∧ w.cell? ⟨g, 3, none⟩ = some (.int .i64 r.a3) ∧ w.cell? ⟨g, 4, none⟩ = some (.int .i64 wk) ∧ w.cell? ⟨g, 5, none⟩ = some (.int .i64 r.e0) ∧ w.cell? ⟨g, 6, none⟩ = some (.int .i64 r.e1) ∧ w.cell? ⟨g, 7, none⟩ = some (.int .i64 r.e2) ∧ w.cell? ⟨g, 8, none⟩ = some (.int .i64 r.e3) ∧ w.cell? ⟨g, 9, none⟩ = some (.int .i64 r.e4) ∧ w.cell? ⟨g, 10, none⟩ = some (.int .i64 r.c1) ∧ w.cell? ⟨g, 11, none⟩ = some (.int .i64 r.c2) ∧ w.cell? ⟨g, 12, none⟩ = some (.int .i64 st) ∧ w.cell? ⟨g, 13, none⟩ = some (.int .i64 ot) ∧ w.cell? ⟨g, 14, none⟩ = some B ∧ w.cell? ⟨g, 15, none⟩ = some (.int .i64 r.bw) ∧ w.cell? ⟨g, 16, none⟩ = some (.slice none 0 0) ∧ w.cell? ⟨g, 17, none⟩ = some (.slice none 0 0) ∧ w.cell? ⟨g, 18, none⟩ = some (.bool r.fr) ∧ w.cell? ⟨g, 19, none⟩ = some (.slice none 0 0) ∧ w.cell? ⟨g, 20, none⟩ = some (.bool r.fh) ∧ w.cell? ⟨g, 21, none⟩ = some (.int .i64 r.ba) ∧ w.cell? ⟨g, 22, none⟩ = some (.int .i64 r.kp) ∧ w.cell? ⟨g, 23, none⟩ = some (.int .i64 r.os) ∧ w.cell? ⟨g, 24, none⟩ = some (.slice none 0 0) ∧ w.cell? ⟨g, 25, none⟩ = some (.int .i64 r.r1) ∧ w.cell? ⟨g, 26, none⟩ = some (.int .i64 r.r2) ∧ w.cell? ⟨g, 27, none⟩ = some (.int .u8 r.en) :=
  ⟨h.cell 0, h.cell 1, h.cell 2, h.cell 3, h.cell 4, h.cell 5, h.cell 6, h.cell 7, h.cell 8, h.cell 9, h.cell 10, h.cell 11, h.cell 12, h.cell 13, h.cell 14, h.cell 15, h.cell 16, h.cell 17, h.cell 18, h.cell 19, h.cell 20, h.cell 21, h.cell 22, h.cell 23, h.cell 24, h.cell 25, h.cell 26, h.cell 27⟩
theorem inn_info : (Try.prog.info? 32).map (·.size) = some 28 := by kernel_rfl
theorem inn_one (r : Rst) (wk st ot : Int) (A : Option Addr) (n c : Nat) : (innL r wk st ot (.slice A n c)).toArray.all (·.oneCell') = true := by simp [innL, Value.oneCell']
def zeroL : List Value := [.int .i64 0, .int .i64 0, .int .i64 0, .int .i64 0, .int .i64 0, .int .i64 0, .int .i64 0, .int .i64 0, .int .i64 0, .int .i64 0, .int .i64 0, .int .i64 0, .int .i64 0, .int .i64 0, .slice none 0 0, .int .i64 0, .slice none 0 0, .slice none 0 0, .bool false, .slice none 0 0, .bool false, .int .i64 0, .int .i64 0, .int .i64 0, .slice none 0 0, .int .i64 0, .int .i64 0, .int .u8 0]
def zeroR : Rst := ⟨0, 0, 0, 0, 0, 0, 0, 0, 0, 0, 0, 0, 0, 0, 0, 0, 0, 0, false, false⟩
theorem zero_inn : ∀ w : World, Sem.run Try.prog (zeroValue 32) w = .ok (innV zeroR 0 0 0 (.slice none 0 0)) w := fun _ => by kernel_rfl
theorem entry2 (w : World) (c1 c2 : List Value) (e1 e2 : TypeId) : Blk ((w.alloc (.cells c1.toArray e1)).alloc (.cells c2.toArray e2)) w.heap.size e1 c1 ∧ Blk ((w.alloc (.cells c1.toArray e1)).alloc (.cells c2.toArray e2)) (w.heap.size + 1) e2 c2 ∧ Below w.heap.size w ((w.alloc (.cells c1.toArray e1)).alloc (.cells c2.toArray e2)) :=
  ⟨(Blk.new w e1 c1).to (cur_new _ _), two_new w _ _, cur_two w _ _⟩
end Go.Proofs.Ytjlmlafiojpjmaa
