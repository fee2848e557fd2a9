/-
  Texts of one chapter, put together (a claim holds at most sixty files).
-/
import Derived.Test.YtdbiihfoafoljaaGreatDoorBase
import Derived.Test.YtdbiihfoafoljaaGreatDoorSplP
import Derived.Test.YtdbiihfoafoljaaGreatDoorRows
import Derived.Test.YtdbiihfoafoljaaGreatDoorNotS
import Derived.Test.YtdbiihfoafoljaaGreatDoorApp
import Derived.Laws.IdiomStrings
import Derived.LoopTactic
import Derived.Laws.BytesArg
import Derived.OwnWalk
import Derived.Test.YtdbiihfoafoljaaGreatDoorNumE
import Derived.Test.YtdbiihfoafoljaaGreatDoorStr
import Derived.Test.YtdbiihfoafoljaaGreatDoorNotW
import Derived.RegionTactic
import Derived.Deep.RegionHeld3
import Derived.Test.YtdbiihfoafoljaaGreatDoorEvL
import Derived.Test.YtdbiihfoafoljaaGreatDoorEvK
import Derived.Test.YtdbiihfoafoljaaGreatDoorNotPr
import Derived.Deep.DeepCutAuto
import Derived.Deep.CutBlock
set_option linter.unusedSimpArgs false
set_option linter.unusedVariables false
namespace Go.Proofs.YtdbiihfoafoljaaGreatDoor
section
/-! Chapter 3's lines in plain Lean: quoted strings, fields, the lines of a source. -/
open Go.RowKit
structure Fld where
  text : List UInt8
  col : Int
  quoted : Bool
  deriving DecidableEq
structure Lin where
  num : Int
  fs : List Fld
  deriving DecidableEq
structure Dg where
  line : Int
  col : Int
  code : Int
  deriving DecidableEq
def whiteC (c : UInt8) : Bool := c == 9 || c == 32
def printC (c : UInt8) : Bool := decide (32 ≤ c) && decide (c ≤ 126)
def wordC (c : UInt8) : Bool := decide (32 < c) && decide (c ≤ 126) && c != 34 && c != 59
/-- The quoted string whose text goes on at index j: the text, the index behind it, true; or the index of the byte that is not accepted. -/
def quoL : Nat → List UInt8 → List UInt8 → List UInt8 × Nat × Bool
  | j, _, [] => ([], j, false)
  | j, acc, [c] => if c = 34 then (acc, j + 1, true) else if printC c then ([], j + 1, false) else ([], j, false)
  | j, acc, c :: d :: r =>
    if c = 34 then (if d = 34 then quoL (j + 2) (acc ++ [34]) r else (acc, j + 1, true))
    else if printC c then quoL (j + 1) (acc ++ [c]) (d :: r) else ([], j, false)
def fldF : Nat → Nat → Bool → List Fld → List UInt8 → List Fld × Int
  | 0, _, _, acc, _ => (acc, 0)
  | _ + 1, _, _, acc, [] => (acc, 0)
  | n + 1, i, aft, acc, c :: r =>
    if whiteC c then fldF n (i + 1) false acc r
    else if c = 59 then (acc, 0)
    else if aft then ([], (i : Int) + 1)
    else if c = 34 then
      let q := quoL (i + 1) [] r
      if q.2.2 then fldF n q.2.1 true (acc ++ [⟨q.1, (i : Int) + 1, true⟩]) ((c :: r).drop (q.2.1 - i)) else ([], (q.2.1 : Int) + 1)
    else
      let k := ((c :: r).takeWhile wordC).length
      if k = 0 ∨ ((c :: r).drop k).head? = some 34 then ([], ((i + k : Nat) : Int) + 1)
      else fldF n (i + k) false (acc ++ [⟨(c :: r).take k, (i : Int) + 1, false⟩]) ((c :: r).drop k)
def fieldsP (s : List UInt8) : List Fld × Int := fldF (s.length + 1) 0 false [] s
/-- A line's fields, the column of its error (0: none), the error's number. -/
def linP (s : List UInt8) : List Fld × Int × Int := if s.length ≤ 1000 then ((fieldsP s).1, (fieldsP s).2, 4) else ([], 1001, 9)
def splStep (a : List Lin × List Dg) (i : Nat) (s : List UInt8) : List Lin × List Dg :=
  if 0 < (linP s).2.1 ∧ a.2.length < 50 then (a.1, a.2 ++ [⟨(i : Int) + 1, (linP s).2.1, (linP s).2.2⟩])
  else if (linP s).2.1 = 0 ∧ 0 < (linP s).1.length then (a.1 ++ [⟨(i : Int) + 1, (linP s).1⟩], a.2) else a
def splF : Nat → List Lin × List Dg → List (List UInt8) → List Lin × List Dg
  | _, a, [] => a
  | i, a, s :: r => splF (i + 1) (splStep a i s) r
def splitP (src : List UInt8) : List Lin × List Dg := if 262144 < src.length then ([], [⟨1, 1, 9⟩]) else splF 0 ([], []) (splitC 10 src)
theorem splF_snoc : ∀ (l : List (List UInt8)) (i : Nat) (a : List Lin × List Dg) (s : List UInt8), splF i a (l ++ [s]) = splStep (splF i a l) (i + l.length) s
  | [], i, a, s => rfl
  | x :: l, i, a, s => by
    show splF (i + 1) (splStep a i x) (l ++ [s]) = _
    rw [splF_snoc l]
    show splStep (splF (i + 1) (splStep a i x) l) _ s = splStep (splF (i + 1) (splStep a i x) l) _ s
    rw [List.length_cons]
    congr 1
    omega
end

section
/-! Chapter 3's lines in memory: a row of fields of its own for each line, and a row of the lines. -/
open Go.RowKit
set_option maxRecDepth 100000
set_option maxHeartbeats 1000000
def flF (f : Fld) : List Value := [.string (sA f.text), .int .i64 f.col, .bool f.quoted]
theorem flF_len (f : Fld) : (flF f).length = 3 := rfl
def dgE (d : Dg) : List Value := [.int .i64 d.line, .int .i64 d.col, .int .i64 d.code]
theorem dgE_len (d : Dg) : (dgE d).length = 3 := rfl
/-- A line in memory: its number, its row of fields' block and room, the fields. -/
structure Lr where
  num : Int
  g : Nat
  c : Nat
  fs : List Fld
abbrev lrV (r : Lr) : Value := .slice (some ⟨r.g, 0, none⟩) r.fs.length r.c
def lrE (r : Lr) : List Value := [.int .i64 r.num, lrV r]
def Lr.lin (r : Lr) : Lin := ⟨r.num, r.fs⟩
theorem lrE_len (r : Lr) : (lrE r).length = 2 := rfl
theorem own_fl {w : World} {base e : Nat} {v : Value} {l : List Fld} (h : OwnL flF 3 e base w v l) (hl : l ≠ []) : ∃ g c, v = .slice (some ⟨g, 0, none⟩) l.length c := by
  rcases h.2 with ⟨_, hn⟩ | ⟨g, cap, cur, rfl, _⟩
  · exact absurd (List.eq_nil_of_length_eq_zero hn) hl
  · exact ⟨g, cap, rfl⟩
theorem own_blk {α : Type} {enc : α → List Value} {size : Nat} {w : World} {base e g n c : Nat} {l : List α} (h : OwnL enc size e base w (.slice (some ⟨g, 0, none⟩) n c) l) : base ≤ g ∧ g < w.heap.size := by
  rcases h.2 with ⟨hv, _⟩ | ⟨g', cap, cur, hv, hb, hh, _⟩
  · cases hv
  · injection hv with h1
    injection h1 with h1
    injection h1 with h1
    subst h1
    exact ⟨hb, (Array.getElem?_eq_some_iff.1 hh).1⟩
theorem own_same {α : Type} {enc : α → List Value} {size : Nat} {w w' : World} {base e g n c : Nat} {l : List α} (h : OwnL enc size e base w (.slice (some ⟨g, 0, none⟩) n c) l) (hk : w'.heap[g]? = w.heap[g]?) : OwnL enc size e base w' (.slice (some ⟨g, 0, none⟩) n c) l := by
  refine ⟨h.1, ?_⟩
  rcases h.2 with h2 | ⟨g', cap, cur, hv, hb, hh, r⟩
  · exact .inl h2
  · injection hv with h1 h2 h3
    injection h1 with h1
    injection h1 with h1
    subst h1 h3
    exact .inr ⟨g, c, cur, by rw [h2], hb, by rw [hk]; exact hh, r⟩
theorem own_block_lt {α : Type} {enc : α → List Value} {size : Nat} {w : World} {base e : Nat} {v : Value} {l : List α} (h : OwnL enc size e base w v l) {g : Nat} (hg : v.ownBlock = some g) : base ≤ g ∧ g < w.heap.size := by
  rcases h.2 with ⟨rfl, _⟩ | ⟨g', cap, cur, rfl, hb, hh, _⟩
  · cases hg
  · injection hg with hg
    subst hg
    exact ⟨hb, (Array.getElem?_eq_some_iff.1 hh).1⟩
end

section
/-! Chapter 3: the bytes of a line, a quoted string, of the program. -/
open Go.RowKit
set_option maxRecDepth 100000
set_option maxHeartbeats 4000000
theorem u8_eqT (c d : UInt8) : (c == d) = decide (c.toNat = d.toNat) := by
  rw [Bool.eq_iff_iff]
  simp only [beq_iff_eq, decide_eq_true_eq]
  exact ⟨fun h => by rw [h], fun h => UInt8.toNat.inj h⟩
theorem whiteC_n (c : UInt8) : whiteC c = (decide (c.toNat = 9) || decide (c.toNat = 32)) := by
  unfold whiteC; rw [u8_eqT, u8_eqT]; rfl
theorem printC_n (c : UInt8) : printC c = (decide (32 ≤ c.toNat) && decide (c.toNat ≤ 126)) := by
  unfold printC; rfl
theorem wordC_n (c : UInt8) : wordC c = (decide (32 < c.toNat) && decide (c.toNat ≤ 126) && !decide (c.toNat = 34) && !decide (c.toNat = 59)) := by
  unfold wordC bne; rw [u8_eqT, u8_eqT]; rfl
end

section
/-! Chapter 3: a quoted string, read by the program. -/
open Go.RowKit
set_option maxRecDepth 100000
set_option maxHeartbeats 4000000
def byE (b : UInt8) : List Value := [.int .u8 b.toNat]
theorem byE_len (b : UInt8) : (byE b).length = 1 := rfl
theorem Tryz.infoBy : (Tryz.prog.info? 5).map (fun i => (i.zero, i.size, i.bytes)) = some (some (.int .u8 0), 1, 1) := by kernel_rfl
theorem Tryz.byElem : ElemOf Tryz.prog byE 1 1 54 5 := .mk' Tryz.infoBy rfl Tryz.underlying54 (by decide) byE_len (fun x u hu => by simp [byE] at hu; subst hu; rfl)
theorem conv_own {base : Nat} {w : World} {v : Value} {l : List UInt8} (h : OwnL byE 1 5 base w v l) : (convert 54 9 v).run Tryz.prog w = .ok (.string (sA l)) w := by
  obtain ⟨A, c, rfl, hrd, hb⟩ := OwnL.rd byE_len h
  cases A with
  | none =>
    cases l with
    | nil => exact run_convert_bytes_nil w _ _ Tryz.underlying54 Tryz.underlying5 _ _ _ Tryz.underlying9
    | cons x l => obtain ⟨b, off, e, _⟩ := hrd 0 x rfl; cases e
  | some A =>
    refine run_convert_bytes_back w _ _ _ A c l Tryz.underlying54 Tryz.underlying5 Tryz.underlying9 fun j hj => ?_
    obtain ⟨b, off, e, _, hc⟩ := hrd j l[j] (List.getElem?_eq_getElem hj)
    injection e with e
    subst e
    have := hc 0 _ rfl
    rw [Addr.add_lit]
    simpa using this
theorem own_baseB {w : World} {base e size n : Nat} {v : Value} {xs : List Value} (h : w.ownsRow base e size v n xs) : ∀ k, v.ownBlock = some k → base ≤ k := fun k hk => by
  rcases h.2 with ⟨rfl, _⟩ | ⟨g, cap, cur, rfl, hb, _⟩
  · cases hk
  · injection hk with hk
    subst hk
    exact hb
theorem sA_sz (l : List UInt8) : (sA l).size = l.length := rfl
theorem drop_cons {l r : List UInt8} {j : Nat} {c : UInt8} (h : l.drop j = c :: r) : j < l.length ∧ l[j]? = some c ∧ l.drop (j + 1) = r := by
  have hj : j < l.length := by
    rcases Nat.lt_or_ge j l.length with h1 | h1
    · exact h1
    · rw [List.drop_eq_nil_of_le h1] at h; cases h
  refine ⟨hj, ?_, ?_⟩
  · have := List.getElem?_drop (xs := l) (i := j) (j := 0)
    rw [h] at this
    simpa using this.symm
  · rw [← List.tail_drop, h]; rfl
theorem sA_at {l : List UInt8} {s : ByteArray} (hs : sA l = s) {j : Nat} {c : UInt8} (h : l[j]? = some c) : ∃ hz : j < s.size, s[j]'hz = c := by
  subst hs
  have hj := (List.getElem?_eq_some_iff.1 h)
  obtain ⟨h1, h2⟩ := hj
  refine ⟨by rw [sA_sz]; exact h1, ?_⟩
  show (sA l).data[j] = c
  simp [sA, h2]
def QuR (l : List UInt8) (i : Nat) (Q : List UInt8 × Nat × Bool) (w : World) (v jv : Value) (wr : World) : Prop := ∃ (j : Nat) (acc : List UInt8) (A : Option Addr) (cp : Nat), j ≤ l.length ∧ acc.length ≤ j ∧ jv = .int .i64 j ∧ v = .slice A acc.length cp ∧ OwnL byE 1 5 w.heap.size wr (.slice A acc.length cp) acc ∧ quoL j acc (l.drop j) = Q ∧ Below w.heap.size w wr
end

section
/-! Chapter 3: the fields of a line, read by the program. -/
open Go.RowKit
set_option maxRecDepth 100000
set_option maxHeartbeats 4000000
theorem sA_slice (l : List UInt8) (i j : Nat) : (sA l).extract i j = sA ((l.drop i).take (j - i)) := by
  apply ByteArray.ext
  rw [ByteArray.data_extract]
  apply Array.ext'
  rw [Array.toList_extract]
  simp [sA, List.extract]
theorem quoL_le : ∀ (j : Nat) (acc r : List UInt8), j ≤ (quoL j acc r).2.1 ∧ (quoL j acc r).2.1 ≤ j + r.length
  | j, _, [] => ⟨Nat.le_refl _, by simp [quoL]⟩
  | j, acc, [c] => by
    unfold quoL
    split
    · exact ⟨by simp, by simp⟩
    · split <;> exact ⟨by simp, by simp⟩
  | j, acc, c :: d :: r => by
    unfold quoL
    split
    · split
      · have := quoL_le (j + 2) (acc ++ [34]) r
        simp only [List.length_cons]
        omega
      · exact ⟨by simp, by simp⟩
    · split
      · have := quoL_le (j + 1) (acc ++ [c]) (d :: r)
        simp only [List.length_cons] at this ⊢
        omega
      · exact ⟨by simp, by simp⟩
theorem quoL_text : ∀ (j : Nat) (acc r : List UInt8), acc.length + 1 ≤ j → (quoL j acc r).1.length ≤ (quoL j acc r).2.1
  | j, _, [], h => by simp [quoL]
  | j, acc, [c], h => by
    unfold quoL
    split
    · show acc.length ≤ j + 1; omega
    · split <;> simp
  | j, acc, c :: d :: r, h => by
    unfold quoL
    split
    · split
      · exact quoL_text (j + 2) (acc ++ [34]) r (by simp; omega)
      · show acc.length ≤ j + 1; omega
    · split
      · exact quoL_text (j + 1) (acc ++ [c]) (d :: r) (by simp; omega)
      · simp
theorem quoL_gt {j : Nat} {acc r : List UInt8} (h : (quoL j acc r).2.2 = true) : j < (quoL j acc r).2.1 := by
  match r with
  | [] => simp [quoL] at h
  | [c] =>
    unfold quoL at h ⊢
    split
    · simp
    · next hc => rw [if_neg hc] at h; split at h <;> simp at h
  | c :: d :: r =>
    unfold quoL at h ⊢
    split
    · split
      · have := (quoL_le (j + 2) (acc ++ [34]) r).1; omega
      · simp
    · next hc =>
      rw [if_neg hc] at h
      split
      · have := (quoL_le (j + 1) (acc ++ [c]) (d :: r)).1; omega
      · next hp => rw [if_neg hp] at h; simp at h
def twL (r : List UInt8) : Nat := (r.takeWhile wordC).length
theorem twL_nil : twL [] = 0 := rfl
theorem twL_on {c : UInt8} {r : List UInt8} (h : wordC c = true) : twL (c :: r) = twL r + 1 := by unfold twL; rw [List.takeWhile_cons, if_pos h]; rfl
theorem twL_off {c : UInt8} {r : List UInt8} (h : wordC c = false) : twL (c :: r) = 0 := by unfold twL; rw [List.takeWhile_cons, h]; rfl
theorem twL_le (r : List UInt8) : twL r ≤ r.length := by
  induction r with
  | nil => exact Nat.le_refl 0
  | cons c r ih =>
    cases h : wordC c with
    | true => rw [twL_on h]; simp; exact ih
    | false => rw [twL_off h]; omega
def WlR (l : List UInt8) (i K : Nat) (wr : World) (jv : Value) (wx : World) : Prop := ∃ j : Nat, wx = wr ∧ i ≤ j ∧ j ≤ l.length ∧ jv = .int .i64 j ∧ (j - i) + twL (l.drop j) = K
end

section
/-! Chapter 3: the lines of a source, read by the program. -/
open Go.RowKit
set_option maxRecDepth 100000
set_option maxHeartbeats 4000000
theorem ownb_len (A : Option Addr) (n m c : Nat) : (Value.slice A n c).ownBlock = (Value.slice A m c).ownBlock := by cases A <;> rfl
theorem sA_list (l : List UInt8) : (sA l).data.toList = l := rfl
theorem splitC_len (c : UInt8) : ∀ l : List UInt8, (splitC c l).length ≤ l.length + 1
  | [] => by simp [splitC]
  | x :: l => by
    have ih := splitC_len c l
    unfold splitC
    split
    · simp; omega
    · split <;> (first | (simp; done) | (simp at *; omega) | (simp [*] at ih ⊢; omega))
theorem splitP_le {l : List UInt8} (h : l.length ≤ 262144) : splitP l = splF 0 ([], []) (splitC 10 l) := by unfold splitP; rw [if_neg (by omega)]
end

section
/-! Chapter 8: the closure of Text that adds a number's word. -/
open Go.RowKit
set_option maxRecDepth 100000
set_option maxHeartbeats 4000000
def stE (s : List UInt8) : List Value := [.string (sA s)]
theorem stE_len (s : List UInt8) : (stE s).length = 1 := rfl
theorem Tryz.infoSt : (Tryz.prog.info? 9).map (fun i => (i.zero, i.size, i.bytes)) = some (some (.string ByteArray.empty), 1, 16) := by kernel_rfl
theorem Tryz.stElem : ElemOf Tryz.prog stE 1 16 75 9 := .mk' Tryz.infoSt rfl Tryz.underlying75 (by decide) stE_len (fun x u hu => by simp [stE] at hu; subst hu; rfl)
/-- A box that holds a row of words of the call's own. -/
structure WdS (p base : Nat) (w : World) (l : List (List UInt8)) (A : Option Addr) (c : Nat) : Prop where
  box : Blk w p 75 [.slice A l.length c]
  own : OwnL stE 1 9 base w (.slice A l.length c) l
  ne : (Value.slice A l.length c).ownBlock ≠ some p
theorem WdS.to {p base : Nat} {w w' : World} {l : List (List UInt8)} {A : Option Addr} {c : Nat} (h : WdS p base w l A c) (hb : Below w.heap.size w w') : WdS p base w' l A c := ⟨h.box.to hb, own_below h.own hb (Nat.le_refl _), h.ne⟩
/-- What a step that adds a word leaves alone: all blocks but the box and the row. -/
structure Kp (p : Nat) (v : Value) (w w' : World) : Prop where
  os : w'.os = w.os
  tape : w'.tape = w.tape
  output : w'.output = w.output
  size : w.heap.size ≤ w'.heap.size
  block : ∀ k, k < w.heap.size → k ≠ p → v.ownBlock ≠ some k → w'.heap[k]? = w.heap[k]?
theorem WdS.add {p base : Nat} {wr w0 w1 : World} {l : List (List UInt8)} {A : Option Addr} {c g cap : Nat} {s : List UInt8} (h : WdS p base wr l A c) (hb : Below wr.heap.size wr w0)
    (ha : App w0 w1 base 9 1 (.slice A l.length c) g cap l.length 1 (l.flatMap stE) (stE s)) : WdS p base (w1.setCell ⟨p, 0, none⟩ (.slice (some ⟨g, 0, none⟩) (l.length + 1) cap)) (l ++ [s]) (some ⟨g, 0, none⟩) cap ∧ Kp p (.slice A l.length c) wr (w1.setCell ⟨p, 0, none⟩ (.slice (some ⟨g, 0, none⟩) (l.length + 1) cap)) ∧ Blk w1 p 75 [.slice A l.length c] := by
  have hp := h.box.lt
  have hs := hb.size
  have hgs := ha.grown.size
  have hb1 : Blk w1 p 75 [.slice A l.length c] := by
    have h1 := h.box.to hb
    unfold Blk at h1 ⊢
    rw [ha.grown.block p (by omega) (fun e => h.ne e.symm)]
    exact h1
  have hgp : g ≠ p := by
    intro e
    rcases ha.at_ with h1 | h1
    · rw [e] at h1; exact h.ne h1
    · omega
  have hst := below_set (Below.refl 0 w1) (Nat.zero_le p) 0 (.slice (some ⟨g, 0, none⟩) (l.length + 1) cap)
  refine ⟨⟨?_, ?_, ?_⟩, ⟨?_, ?_, ?_, ?_, ?_⟩, hb1⟩
  · rw [List.length_append]
    exact hb1.set 0 _
  · rw [List.length_append]
    exact own_other (ha.one rfl) (fun k hk e => hgp ((by injection hk : g = k).trans e)) 0 _
  · intro e
    injection e with e
    exact hgp e
  · exact hst.os.trans (ha.grown.os.trans hb.os)
  · exact hst.tape.trans (ha.grown.tape.trans hb.tape)
  · exact hst.output.trans (ha.grown.output.trans hb.output)
  · have := hst.size; omega
  · intro k hk hkp hv
    rw [heap_setCell_other w1 ⟨p, 0, none⟩ k _ hkp, ha.grown.block k (by omega) (fun e => hv e.symm), hb.block k hk]
theorem text1_p (x : Int) (h0 : 0 ≤ x) (h1 : x ≤ 1000000) (p base : Nat) (l : List (List UInt8)) (hl : l.length ≤ 1000) (A : Option Addr) (c : Nat) (w : World) (hw : LibW w) (hW : WdS p base w l A c) (hbase : base ≤ w.heap.size) :
    Calls Tryz.prog 44 #[.int .i64 x, .pointer (some ⟨p, 0, none⟩)] w fun e w' => e = .returned (.tuple #[]) ∧ ∃ A' c', WdS p base w' (l ++ [dcB x]) A' c' ∧ Kp p (.slice A l.length c) w w' := by
  have d0 := hW.box.cell 0
  simp only [List.getElem?_cons_zero] at d0
  have z0 := hW.box.frozen 0
  have hp := hW.box.lt
  have HW := Lib.hid hW
  have HL := Lib.hid hw
  clear hW hw
  go_enter Tryz.func44, Tryz.ntmps44
  obtain ⟨sx, hsx⟩ : ∃ y, dcA x = y := ⟨_, rfl⟩
  have HSX := Lib.hid hsx
  clear hsx
  refine wp_region_any (by kernel_rfl) ?_
  try (change wpAny _ _ _ _ _ _ _ (World.drew _))
  refine wpAny_take (i := 1) (v := ?_) rfl (by kernel_rfl) (by kernel_rfl) (by kernel_rfl) (fun _ _ _ h => h) (Or.inl ⟨by rfl, ?_⟩) ?_
  rotate_left
  · intro w
    go_simp
    try with_reducible rfl
  refine wpAny_ready (rs := [0, 2]) (by kernel_rfl) (by simp) ?_
  refine AllReady.cons rfl (fun K hK => ?_) (AllReady.cons rfl (fun K hK => ?_) AllReady.nil)
  · go_simp
    refine hK _ _ ?_
    clear hK K
    refine wpAny_ready (rs := [2]) (by kernel_rfl) (by simp) ?_
    refine AllReady.cons rfl (fun K hK => ?_) AllReady.nil
    go_simp
    refine (dec_p x h0 (by omega) _ (HL.out.to ((Below.refl w.heap.size w).drew))).mono ?_
    rw [HSX.out]
    rintro e' w3 ⟨rfl, hq3⟩
    have hb3 : Below w.heap.size w w3 := ⟨hq3.os, hq3.tape, hq3.output, hq3.size, hq3.block⟩
    have hd3 : w3.cell? ⟨p, 0, none⟩ = some (.slice A l.length c) := (hb3.cell (p := ⟨p, 0, none⟩) hp).trans d0
    have hp3 : p < w3.heap.size := Nat.lt_of_lt_of_le hp hb3.size
    dsimp only
    refine hK _ _ ?_
    clear hK K
    refine wpAny_ready (rs := [3]) (by kernel_rfl) (by simp) ?_
    refine AllReady.cons rfl (fun K hK => ?_) AllReady.nil
    go_simp
    refine hK _ _ ?_
    clear hK K
    refine wpAny_ready (rs := [4]) (by kernel_rfl) (by simp) ?_
    refine AllReady.cons rfl (fun K hK => ?_) AllReady.nil
    refine step_app1 Tryz.stElem _ (by rfl) (.tmp 3) (.tmp 6) (by rfl) base A c l (by rfl) (World.ownsRow.alloc (own_below HW.out.own hb3 (Nat.le_refl _)) _) (dcB x) w3.heap.size 1 (by rfl) ?hp (by unfold maxLen; omega) (by omega) (by have := hb3.size; rw [World.size_alloc]; omega) ?_
    case hp => rw [show stE (dcB x) = [.string sx] from by rw [← HSX.out]; rfl]; exact heap_alloc_new w3 _
    intro g cap w4 ha
    have hadd := HW.out.add (cur_step1 hb3 (cur_new w3 _)) ha
    have e0 : w4.cell? ⟨p, 0, none⟩ = some (.slice A l.length c) := hadd.2.2.cell 0
    have e1 := hadd.2.2.frozen 0
    have e2 := hadd.2.2.lt
    refine hK _ _ ?_
    clear hK K
    refine wpAny_ready (rs := [5]) (by kernel_rfl) (by simp) ?_
    refine AllReady.cons rfl (fun K hK => ?_) AllReady.nil
    go_simp
    refine hK _ _ ?_
    clear hK K
    refine wpAny_done (by kernel_rfl) ?_ _
    go_wp2_with (fail)
    first | exact ⟨rfl, ⟨_, _, hadd.1⟩, hadd.2.1⟩ | exact ⟨rfl, _, _, hadd.1, hadd.2.1⟩ | (go_end0; first | exact ⟨rfl, ⟨_, _, hadd.1⟩, hadd.2.1⟩ | exact ⟨rfl, _, _, hadd.1, hadd.2.1⟩)
  · go_simp
    refine (dec_p x h0 (by omega) _ (HL.out.to ((Below.refl w.heap.size w).drew))).mono ?_
    rw [HSX.out]
    rintro e' w3 ⟨rfl, hq3⟩
    have hb3 : Below w.heap.size w w3 := ⟨hq3.os, hq3.tape, hq3.output, hq3.size, hq3.block⟩
    have hd3 : w3.cell? ⟨p, 0, none⟩ = some (.slice A l.length c) := (hb3.cell (p := ⟨p, 0, none⟩) hp).trans d0
    have hp3 : p < w3.heap.size := Nat.lt_of_lt_of_le hp hb3.size
    dsimp only
    refine hK _ _ ?_
    clear hK K
    refine wpAny_ready (rs := [0, 3]) (by kernel_rfl) (by simp) ?_
    refine AllReady.cons rfl (fun K hK => ?_) (AllReady.cons rfl (fun K hK => ?_) AllReady.nil)
    · go_simp
      refine hK _ _ ?_
      clear hK K
      refine wpAny_ready (rs := [3]) (by kernel_rfl) (by simp) ?_
      refine AllReady.cons rfl (fun K hK => ?_) AllReady.nil
      go_simp
      refine hK _ _ ?_
      clear hK K
      refine wpAny_ready (rs := [4]) (by kernel_rfl) (by simp) ?_
      refine AllReady.cons rfl (fun K hK => ?_) AllReady.nil
      refine step_app1 Tryz.stElem _ (by rfl) (.tmp 3) (.tmp 6) (by rfl) base A c l (by rfl) (World.ownsRow.alloc (own_below HW.out.own hb3 (Nat.le_refl _)) _) (dcB x) w3.heap.size 1 (by rfl) ?hp (by unfold maxLen; omega) (by omega) (by have := hb3.size; rw [World.size_alloc]; omega) ?_
      case hp => rw [show stE (dcB x) = [.string sx] from by rw [← HSX.out]; rfl]; exact heap_alloc_new w3 _
      intro g cap w4 ha
      have hadd := HW.out.add (cur_step1 hb3 (cur_new w3 _)) ha
      have e0 : w4.cell? ⟨p, 0, none⟩ = some (.slice A l.length c) := hadd.2.2.cell 0
      have e1 := hadd.2.2.frozen 0
      have e2 := hadd.2.2.lt
      refine hK _ _ ?_
      clear hK K
      refine wpAny_ready (rs := [5]) (by kernel_rfl) (by simp) ?_
      refine AllReady.cons rfl (fun K hK => ?_) AllReady.nil
      go_simp
      refine hK _ _ ?_
      clear hK K
      refine wpAny_done (by kernel_rfl) ?_ _
      go_wp2_with (fail)
      first | exact ⟨rfl, ⟨_, _, hadd.1⟩, hadd.2.1⟩ | exact ⟨rfl, _, _, hadd.1, hadd.2.1⟩ | (go_end0; first | exact ⟨rfl, ⟨_, _, hadd.1⟩, hadd.2.1⟩ | exact ⟨rfl, _, _, hadd.1, hadd.2.1⟩)
    · go_simp
      refine hK _ _ ?_
      clear hK K
      refine wpAny_ready (rs := [0]) (by kernel_rfl) (by simp) ?_
      refine AllReady.cons rfl (fun K hK => ?_) AllReady.nil
      go_simp
      refine hK _ _ ?_
      clear hK K
      refine wpAny_ready (rs := [4]) (by kernel_rfl) (by simp) ?_
      refine AllReady.cons rfl (fun K hK => ?_) AllReady.nil
      refine step_app1 Tryz.stElem _ (by rfl) (.tmp 3) (.tmp 6) (by rfl) base A c l (by rfl) (World.ownsRow.alloc (own_below HW.out.own hb3 (Nat.le_refl _)) _) (dcB x) w3.heap.size 1 (by rfl) ?hp (by unfold maxLen; omega) (by omega) (by have := hb3.size; rw [World.size_alloc]; omega) ?_
      case hp => rw [show stE (dcB x) = [.string sx] from by rw [← HSX.out]; rfl]; exact heap_alloc_new w3 _
      intro g cap w4 ha
      have hadd := HW.out.add (cur_step1 hb3 (cur_new w3 _)) ha
      have e0 : w4.cell? ⟨p, 0, none⟩ = some (.slice A l.length c) := hadd.2.2.cell 0
      have e1 := hadd.2.2.frozen 0
      have e2 := hadd.2.2.lt
      refine hK _ _ ?_
      clear hK K
      refine wpAny_ready (rs := [5]) (by kernel_rfl) (by simp) ?_
      refine AllReady.cons rfl (fun K hK => ?_) AllReady.nil
      go_simp
      refine hK _ _ ?_
      clear hK K
      refine wpAny_done (by kernel_rfl) ?_ _
      go_wp2_with (fail)
      first | exact ⟨rfl, ⟨_, _, hadd.1⟩, hadd.2.1⟩ | exact ⟨rfl, _, _, hadd.1, hadd.2.1⟩ | (go_end0; first | exact ⟨rfl, ⟨_, _, hadd.1⟩, hadd.2.1⟩ | exact ⟨rfl, _, _, hadd.1, hadd.2.1⟩)
end

section
/-! strings.Join at a row of the call's own. -/
open Go.RowKit
set_option maxRecDepth 100000
set_option maxHeartbeats 4000000
theorem Tryz.extraJ : Builder.Extra Tryz.prog Tryz.laysJoin_ren where
  sizeBuilder := by kernel_rfl
  liesBuilder := by kernel_rfl
  t5 := Tryz.underlying5
  a5 := Tryz.isAgg5
  z5 := Tryz.sizeOf5
  v5 := Tryz.zeroValue5
  infoByte := by kernel_rfl
  cellsByte := by kernel_rfl
  sizeByte := by kernel_rfl
  neB5 := by decide
theorem join_is : ∀ l : List (List UInt8), Lib.join l [32] = joinS l
  | [] => rfl
  | [w] => by simp [Lib.join, joinS]
  | w :: v :: r => by
    have ih := join_is (v :: r)
    rw [joinS, if_neg (by simp), ← ih]
    simp [Lib.join]
theorem join_own {base c : Nat} {A : Option Addr} {l : List (List UInt8)} (hl : l ≠ []) (hn : l.length ≤ 100000) (hlen : (joinS l).length ≤ 1000000000) (w : World) (ho : OwnL stE 1 9 base w (.slice A l.length c) l) :
    Calls Tryz.prog 46 #[.slice A l.length c, .string ⟨#[32]⟩] w fun e w' => e = .returned (.string (sA (joinS l))) ∧ Below w.heap.size w w' := by
  obtain ⟨A', c', e, hrd, _⟩ := OwnL.rd stE_len ho
  injection e with e1 _ e3
  subst e1 e3
  have hcap := own_cap ho
  match l, hl with
  | [x], _ =>
    obtain ⟨b, off, rfl, hb, hc⟩ := hrd 0 x rfl
    refine (Any.strings_Join_one Tryz.laysJoin Tryz.extraJ b off c (sA x) ⟨#[32]⟩ w (by have := hc 0 _ rfl; simpa using this)).mono fun e w' h => ⟨?_, ?_⟩
    · rw [h.1]; simp [joinS]
    · rw [h.2]; exact Below.refl _ _
  | x :: y :: r, _ =>
    obtain ⟨b, off, rfl, hb, hc⟩ := hrd 0 x rfl
    have hm : ((x :: y :: r).map sA).map (fun s : ByteArray => s.data.toList) = x :: y :: r := by
      rw [List.map_map]
      exact List.map_id' _
    have hlen2 : (x :: y :: r).length = ((x :: y :: r).map sA).length := by rw [List.length_map]
    rw [hlen2]
    refine (Any.strings_Join_many Tryz.laysJoin Tryz.extraJ b off c ((x :: y :: r).map sA) ⟨#[32]⟩ w (fun j z hz => ?_) hb (by simp) (by simp at hn ⊢; omega) (by rw [List.length_map]; exact hcap) (by rw [hm]; show (Lib.join _ [32]).length ≤ _; rw [join_is]; omega)).mono fun e w' h => ⟨?_, h.2⟩
    · rw [List.getElem?_map] at hz
      obtain ⟨q, hq, rfl⟩ := Option.map_eq_some_iff.1 hz
      obtain ⟨b2, off2, e2, _, hc2⟩ := hrd j q hq
      injection e2 with e2
      injection e2 with e21 e22 _
      subst e21 e22
      have := hc2 0 _ rfl
      simpa using this
    · rw [h.1, hm]
      show Ending.returned (Value.string ⟨(Lib.join _ [32]).toArray⟩) = _
      rw [join_is]
      rfl
end

section
/-! Chapter 8: Text of the program. -/
open Go.RowKit
set_option maxRecDepth 100000
set_option maxHeartbeats 4000000
theorem forms_q (w : World) : Calls Tryz.prog 43 #[] w fun e w' => e = .returned (.slice (some ⟨w.heap.size, 0, none⟩) 16 16) ∧ Blk w' w.heap.size 91 fmL ∧ Below w.heap.size w w' :=
  (forms_p w).mono fun e w' ⟨h1, h2⟩ => ⟨h1, by rw [h2]; exact Blk.new w _ _, by rw [h2]; exact cur_new _ _⟩
theorem form_load {W : World} {g n N : Nat} {xs : List Value} (hb : Blk W g 91 fmL) (hx : ∀ j v, xs[j]? = some v → fmL[n * 4 + j]? = some v) (h4 : xs.length = 4) (hN : xs.length = N) : Sem.run Tryz.prog (loadCellsFrom ⟨g, n * N, none⟩ 0 N #[]) W = .ok xs.toArray W := by
  subst hN
  rw [show n * xs.length = n * 4 by rw [h4]]
  have := run_loadCells_list (P := Tryz.prog) W ⟨g, n * 4, none⟩ xs (fun j v hv => by
    have hadd : (⟨g, n * 4, none⟩ : Addr).add j = ⟨g, n * 4 + j, none⟩ := by unfold Addr.add; split <;> simp_all
    rw [hadd, hb.cell]
    exact hx j v hv)
  simpa [loadCells] using this
theorem form_info : (Tryz.prog.info? 91).map (·.size) = some 4 := by kernel_rfl
theorem form_store (n : Nat) {W : World} {g : Nat} (hb : Blk W g 91 [.string ⟨#[]⟩, .string ⟨#[]⟩, .string ⟨#[]⟩, .string ⟨#[]⟩]) : Sem.run Tryz.prog (storeCells ⟨g, 0, none⟩ (fmE n)) W = .ok () (W.setRow g (fmE n).toArray) :=
  run_storeCells_blk _ hb form_info rfl (by simp [fmE, Value.oneCell'])
theorem form_zero {w2 w3 : World} (qb : Below (w2.alloc (.cells #[.string ⟨#[]⟩, .string ⟨#[]⟩, .string ⟨#[]⟩, .string ⟨#[]⟩] 91)).drew.heap.size (w2.alloc (.cells #[.string ⟨#[]⟩, .string ⟨#[]⟩, .string ⟨#[]⟩, .string ⟨#[]⟩] 91)).drew w3) : Blk w3 w2.heap.size 91 [.string ⟨#[]⟩, .string ⟨#[]⟩, .string ⟨#[]⟩, .string ⟨#[]⟩] :=
  Blk.below (w := (w2.alloc (.cells #[.string ⟨#[]⟩, .string ⟨#[]⟩, .string ⟨#[]⟩, .string ⟨#[]⟩] 91)).drew) (Blk.new w2 _ [.string ⟨#[]⟩, .string ⟨#[]⟩, .string ⟨#[]⟩, .string ⟨#[]⟩]) qb (by simp only [World.size_drew, World.size_alloc]; omega)
theorem form_relA {w2 w3 : World} {b n : Nat} {E : List Value} (hk : Blk w2 b 38 E) (qb : Below w2.heap.size w2 w3) : ∃ f, Value.pointer (some ⟨w3.heap.size, 0, none⟩) = .pointer (some ⟨f, 0, none⟩) ∧ Blk ((w3.alloc (.cells #[.string ⟨#[]⟩, .string ⟨#[]⟩, .string ⟨#[]⟩, .string ⟨#[]⟩] 91)).setRow w3.heap.size (fmE n).toArray) f 91 (fmE n) ∧ Blk ((w3.alloc (.cells #[.string ⟨#[]⟩, .string ⟨#[]⟩, .string ⟨#[]⟩, .string ⟨#[]⟩] 91)).setRow w3.heap.size (fmE n).toArray) b 38 E ∧ w2.heap.size ≤ f ∧ Below w2.heap.size w2 ((w3.alloc (.cells #[.string ⟨#[]⟩, .string ⟨#[]⟩, .string ⟨#[]⟩, .string ⟨#[]⟩] 91)).setRow w3.heap.size (fmE n).toArray) := by
  have h3 := (hk.to qb)
  have hlt := h3.lt
  refine ⟨_, rfl, by simpa using blk_row (Blk.new w3 91 [.string ⟨#[]⟩, .string ⟨#[]⟩, .string ⟨#[]⟩, .string ⟨#[]⟩]) (fmE n).toArray, Blk.row_other (h3.to (cur_new w3 _)) (by omega) _, qb.size, ?_⟩
  exact row_below (cur_step1 qb (cur_new w3 _)) qb.size _
theorem form_relB {w2 w3 : World} {b n : Nat} {E : List Value} (hk : Blk w2 b 38 E) (qb : Below (w2.alloc (.cells #[.string ⟨#[]⟩, .string ⟨#[]⟩, .string ⟨#[]⟩, .string ⟨#[]⟩] 91)).drew.heap.size (w2.alloc (.cells #[.string ⟨#[]⟩, .string ⟨#[]⟩, .string ⟨#[]⟩, .string ⟨#[]⟩] 91)).drew w3) : ∃ f, Value.pointer (some ⟨w2.heap.size, 0, none⟩) = .pointer (some ⟨f, 0, none⟩) ∧ Blk (w3.setRow w2.heap.size (fmE n).toArray) f 91 (fmE n) ∧ Blk (w3.setRow w2.heap.size (fmE n).toArray) b 38 E ∧ w2.heap.size ≤ f ∧ Below w2.heap.size w2 (w3.setRow w2.heap.size (fmE n).toArray) := by
  have hlt := hk.lt
  have q1 : Below w2.heap.size w2 w3 := cur_step1 (cur_new w2 (.cells #[.string ⟨#[]⟩, .string ⟨#[]⟩, .string ⟨#[]⟩, .string ⟨#[]⟩] 91)).drew qb
  exact ⟨_, rfl, by simpa using blk_row (form_zero qb) (fmE n).toArray, Blk.row_other (hk.to q1) (by omega) _, Nat.le_refl _, row_below q1 (Nat.le_refl _) _⟩
theorem joinS_len {m : Nat} : ∀ {ws : List (List UInt8)}, (∀ w ∈ ws, w.length ≤ m) → (joinS ws).length ≤ ws.length * (m + 1)
  | [], _ => by simp [joinS]
  | w :: r, h => by
    have ih := joinS_len (ws := r) (fun x hx => h x (List.mem_cons_of_mem _ hx))
    have hw := h w List.mem_cons_self
    rw [joinS]
    split
    · rw [List.length_cons, Nat.succ_mul]; omega
    · rw [List.length_append, List.length_cons, List.length_cons, Nat.succ_mul]; omega
theorem prt_len {d : Del} (h : OkD d) : (prtD d).length ≤ 60 := by
  unfold prtD
  have h1 := tyL_len d.ty
  have h2 := srcL_len d.ty d.src
  have h3 := runL_len d
  have h4 := bdL_len d.bd
  have h5 := shL_len d.short
  have h6 := crL_len d.cr
  have h7 := wkL_len h
  have h8 : (secL d.sec).length ≤ 5 := by unfold secL; split <;> simp [dg]
  simp only [List.length_append]
  omega
theorem flds_mem {n : Nat} (hn : n < 16) : ∀ c ∈ fldsT.getD n [], c ∈ allC := by
  rcases (by omega : n = 0 ∨ n = 1 ∨ n = 2 ∨ n = 3 ∨ n = 4 ∨ n = 5 ∨ n = 6 ∨ n = 7 ∨ n = 8 ∨ n = 9 ∨ n = 10 ∨ n = 11 ∨ n = 12 ∨ n = 13 ∨ n = 14 ∨ n = 15) with rfl | rfl | rfl | rfl | rfl | rfl | rfl | rfl | rfl | rfl | rfl | rfl | rfl | rfl | rfl | rfl <;> decide
theorem flds_len {n : Nat} (hn : n < 16) : (fldsT.getD n []).length ≤ 2 := by
  rcases (by omega : n = 0 ∨ n = 1 ∨ n = 2 ∨ n = 3 ∨ n = 4 ∨ n = 5 ∨ n = 6 ∨ n = 7 ∨ n = 8 ∨ n = 9 ∨ n = 10 ∨ n = 11 ∨ n = 12 ∨ n = 13 ∨ n = 14 ∨ n = 15) with rfl | rfl | rfl | rfl | rfl | rfl | rfl | rfl | rfl | rfl | rfl | rfl | rfl | rfl | rfl | rfl <;> decide
theorem word_len {n : Nat} (hn : n < 16) : (wordT.getD n []).length ≤ 60 ∧ (yesT.getD n []).length ≤ 60 ∧ (noT.getD n []).length ≤ 60 := by
  rcases (by omega : n = 0 ∨ n = 1 ∨ n = 2 ∨ n = 3 ∨ n = 4 ∨ n = 5 ∨ n = 6 ∨ n = 7 ∨ n = 8 ∨ n = 9 ∨ n = 10 ∨ n = 11 ∨ n = 12 ∨ n = 13 ∨ n = 14 ∨ n = 15) with rfl | rfl | rfl | rfl | rfl | rfl | rfl | rfl | rfl | rfl | rfl | rfl | rfl | rfl | rfl | rfl <;> decide
theorem fits_of {e : Ev} (h : OkE e) {n : Nat} (hn : n < 16) (hk : e.kind = (n : Int) + 1) {c : UInt8} (hc : c ∈ fldsT.getD n []) : fitF e c = true := by
  refine h.fits c (flds_mem hn c hc) ?_
  unfold usesB fldsL
  rw [hk, show ((n : Int) + 1 - 1).toNat = n by omega]
  simp only [List.contains_iff_mem.2 hc, Bool.true_or]
theorem runs_le {e : Ev} (h : btw e.runs (loR e.kind) (hiR e.kind) = true) : 0 ≤ e.runs ∧ e.runs ≤ 1000000 := by
  unfold btw at h
  simp only [Bool.and_eq_true, decide_eq_true_eq] at h
  have h1 : 0 ≤ loR e.kind := by unfold loR; split <;> (try split) <;> omega
  have h2 : hiR e.kind ≤ 100000 := by unfold hiR; split <;> (try split) <;> omega
  omega
theorem btw_le {n lo hi : Int} (h : btw n lo hi = true) (h0 : 0 ≤ lo) (h1 : hi ≤ 1000000) : 0 ≤ n ∧ n ≤ 1000000 := by
  unfold btw at h
  simp only [Bool.and_eq_true, decide_eq_true_eq] at h
  omega
theorem kind_ball {n : Nat} (hn : n < 16) (h : 98 ∈ fldsT.getD n []) : n = 3 := by
  rcases (by omega : n = 0 ∨ n = 1 ∨ n = 2 ∨ n = 3 ∨ n = 4 ∨ n = 5 ∨ n = 6 ∨ n = 7 ∨ n = 8 ∨ n = 9 ∨ n = 10 ∨ n = 11 ∨ n = 12 ∨ n = 13 ∨ n = 14 ∨ n = 15) with rfl | rfl | rfl | rfl | rfl | rfl | rfl | rfl | rfl | rfl | rfl | rfl | rfl | rfl | rfl | rfl <;> revert h <;> decide
theorem word0_len {e : Ev} (hk : 1 ≤ e.kind ∧ e.kind ≤ 16) : (word0 e).length ≤ 60 := by
  unfold word0
  split
  · decide
  · obtain ⟨n, hn, hkn⟩ : ∃ n : Nat, n < 16 ∧ e.kind = (n : Int) + 1 := ⟨(e.kind - 1).toNat, by omega, by omega⟩
    unfold wordL
    rw [hkn, show ((n : Int) + 1 - 1).toNat = n by omega]
    exact (word_len hn).1
theorem field_len {e : Ev} (h : OkE e) {n : Nat} (hn : n < 16) (hk : e.kind = (n : Int) + 1) {c : UInt8} (hc : c ∈ fldsT.getD n []) : (fieldL e c).length ≤ 60 := by
  have hf := fits_of h hn hk hc
  have hm := flds_mem hn c hc
  have hd : ∀ x : Int, 0 ≤ x ∧ x ≤ 1000000 → (dcB x).length ≤ 60 := fun x hx => by have := dcB_len (n := x) (by omega); omega
  simp only [allC, List.mem_cons, List.not_mem_nil, or_false] at hm
  rcases hm with rfl | rfl | rfl | rfl | rfl | rfl | rfl
  · exact hd e.side (btw_le hf (by decide) (by decide))
  · exact hd e.player (btw_le hf (by decide) (by decide))
  · exact hd e.other (btw_le hf (by decide) (by decide))
  · show (if e.yes then yesL e.kind else noL e.kind).length ≤ 60
    unfold yesL noL
    rw [hk, show ((n : Int) + 1 - 1).toNat = n by omega]
    split
    · exact (word_len hn).2.1
    · exact (word_len hn).2.2
  · exact hd e.runs (runs_le hf)
  · exact hd e.overs (btw_le hf (by decide) (by decide))
  · show (prtD e.ball).length ≤ 60
    have h3 := kind_ball hn hc
    subst h3
    exact prt_len (okD_of (h.ball hk))
theorem txt_len {e : Ev} (h : OkE e) : (joinS (wordsE e)).length ≤ 200 := by
  have hkb := h.kind
  obtain ⟨n, hn, hkn⟩ : ∃ n : Nat, n < 16 ∧ e.kind = (n : Int) + 1 := ⟨(e.kind - 1).toNat, by omega, by omega⟩
  have hw : ∀ w ∈ wordsE e, w.length ≤ 60 := by
    intro w hw
    unfold wordsE at hw
    rcases List.mem_cons.1 hw with rfl | hw
    · exact word0_len h.kind
    · obtain ⟨c, hc, rfl⟩ := List.mem_map.1 hw
      unfold fldsL at hc
      rw [hkn, show ((n : Int) + 1 - 1).toNat = n by omega] at hc
      exact field_len h hn hkn hc
  have := joinS_len hw
  have h2 : (wordsE e).length ≤ 3 := by
    unfold wordsE fldsL
    rw [hkn, show ((n : Int) + 1 - 1).toNat = n by omega, List.length_cons, List.length_map]
    have := flds_len hn
    omega
  have h3 := Nat.mul_le_mul_right (60 + 1) h2
  omega
theorem Kp.blk {p : Nat} {v : Value} {w w' : World} (h : Kp p v w w') {g : Nat} {t : TypeId} {xs : List Value} (hb : Blk w g t xs) (h1 : g ≠ p) (h2 : v.ownBlock ≠ some g) : Blk w' g t xs := by
  unfold Blk
  rw [h.block g hb.lt h1 h2]
  exact hb
theorem Kp.below {p : Nat} {v : Value} {w w' : World} (h : Kp p v w w') {B : Nat} (hB : B ≤ w.heap.size) (h1 : B ≤ p) (h2 : ∀ k, v.ownBlock = some k → B ≤ k) : Below B w w' :=
  ⟨h.os, h.tape, h.output, h.size, fun k hk => h.block k (by omega) (by omega) (fun e => by have := h2 k e; omega)⟩
structure TxS (e : Ev) (n f b p base : Nat) (w wr : World) (l : List (List UInt8)) (A : Option Addr) (c : Nat) : Prop where
  wd : WdS p base wr l A c
  fm : Blk wr f 91 (fmE n)
  ev : Blk wr b 38 (evE e)
  bl : Below w.heap.size w wr
theorem TxS.to {e : Ev} {n f b p base : Nat} {w wr w1 : World} {l : List (List UInt8)} {A : Option Addr} {c : Nat} (h : TxS e n f b p base w wr l A c) (hb : Below wr.heap.size wr w1) : TxS e n f b p base w w1 l A c :=
  ⟨h.wd.to hb, h.fm.to hb, h.ev.to hb, cur_step1 h.bl hb⟩
theorem TxS.kp {e : Ev} {n f b p base : Nat} {w wr w1 : World} {l l' : List (List UInt8)} {A A' : Option Addr} {c c' : Nat} (h : TxS e n f b p base w wr l A c) (hk : Kp p (.slice A l.length c) wr w1) (hw : WdS p base w1 l' A' c')
    (hbp : base ≤ p) (hf : f < base) (hb : b < base) (hwb : w.heap.size ≤ base) : TxS e n f b p base w w1 l' A' c' := by
  have ho : ∀ k, (Value.slice A l.length c).ownBlock = some k → base ≤ k := own_baseB h.wd.own
  have hpl := h.wd.box.lt
  have hbel : Below base wr w1 := hk.below (by omega) hbp ho
  exact ⟨hw, hk.blk h.fm (by omega) (fun e => by have := ho _ e; omega), hk.blk h.ev (by omega) (fun e => by have := ho _ e; omega), h.bl.trans (hbel.mono hwb)⟩
theorem tx_new {e : Ev} {n f b : Nat} {w wc : World} (hf : Blk wc f 91 (fmE n)) (hb : Blk wc b 38 (evE e)) (hw : Below w.heap.size w wc) (s : List UInt8) :
    TxS e n f b (wc.heap.size + 1) wc.heap.size w ((wc.alloc (.cells #[.string (sA s)] 9)).alloc (.cells #[.slice (some ⟨wc.heap.size, 0, none⟩) 1 1] 75)) [s] (some ⟨wc.heap.size, 0, none⟩) 1 := by
  have h2 := cur_two wc (.cells #[.string (sA s)] 9) (.cells #[.slice (some ⟨wc.heap.size, 0, none⟩) 1 1] 75)
  have ho := World.ownsRow_lit wc (base := wc.heap.size) (e := 9) (size := 1) #[.string (sA s)] 1 (Nat.le_refl _) (by decide) rfl
  refine ⟨⟨?_, World.ownsRow.alloc ho _, ?_⟩, hf.to h2, hb.to h2, cur_step1 hw h2⟩
  · have := Blk.new (wc.alloc (.cells #[.string (sA s)] 9)) 75 [.slice (some ⟨wc.heap.size, 0, none⟩) 1 1]
    rw [World.size_alloc] at this
    exact this
  · intro e
    have e : wc.heap.size = wc.heap.size + 1 := by injection e
    omega
theorem tx_time {e : Ev} {n f b : Nat} {w wc : World} (hf : Blk wc f 91 (fmE n)) (hb : Blk wc b 38 (evE e)) (hw : Below w.heap.size w wc) (s0 : ByteArray) :
    TxS e n f b (wc.heap.size + 1) wc.heap.size w (((wc.alloc (.cells #[.string s0] 9)).alloc (.cells #[.slice (some ⟨wc.heap.size, 0, none⟩) 1 1] 75)).setCell ⟨wc.heap.size, 0, none⟩ (.string ⟨#[84, 73, 77, 69, 79, 85, 84]⟩)) [sTO] (some ⟨wc.heap.size, 0, none⟩) 1 := by
  have h := tx_new hf hb hw sTO
  have e1 : ((wc.alloc (.cells #[.string s0] 9)).alloc (.cells #[.slice (some ⟨wc.heap.size, 0, none⟩) 1 1] 75)).setCell ⟨wc.heap.size, 0, none⟩ (.string ⟨#[84, 73, 77, 69, 79, 85, 84]⟩) = ((wc.alloc (.cells #[.string (sA sTO)] 9)).alloc (.cells #[.slice (some ⟨wc.heap.size, 0, none⟩) 1 1] 75)) := by
    rw [World.setCell_alloc_past _ _ _ _ (by simp), World.setCell_alloc_at _ _ _ _ _ rfl]
    rfl
  rw [e1]
  exact h
def TxR (e : Ev) (n f b p base : Nat) (w : World) (iv : Value) (wr : World) : Prop := ∃ (k : Nat) (A : Option Addr) (c : Nat), k ≤ (fldsT.getD n []).length ∧ iv = .int .i64 k ∧ TxS e n f b p base w wr (word0 e :: ((fldsT.getD n []).take k).map (fieldL e)) A c
attribute [-simp] Tryz.isAgg91 Tryz.sizeOf91
theorem text_p (e : Ev) (hh : 0 ≤ e.ball.how) (w : World) (hw : LibW w) : Calls Tryz.prog 19 #[evV e] w fun e' w' => e' = .returned (.tuple #[.string (sA (TxtE e).1), .int .i64 (TxtE e).2]) ∧ Below w.heap.size w w' := by
  have hbx := cur_new w (.cells (evE e).toArray 38)
  have hblk := Blk.new w 38 (evE e)
  obtain ⟨w1, hw1⟩ : ∃ y, w.alloc (.cells (evE e).toArray 38) = y := ⟨_, rfl⟩
  rw [hw1] at hbx hblk
  have SW1 := Lib.hid (show w.alloc (.cells #[.int .u8 e.kind, .int .i64 e.side, .int .i64 e.player, .int .i64 e.other, .bool e.yes, .int .i64 e.runs, .int .i64 e.overs, .int .u8 e.ball.ty, .int .u8 e.ball.src, .int .i64 e.ball.runs, .int .i64 e.ball.short, .int .i64 e.ball.bd, .bool e.ball.cr, .int .u8 e.ball.how, .int .i64 e.ball.vic, .int .i64 e.ball.fd, .int .i64 e.ball.sd, .bool e.ball.sub, .int .i64 e.ball.sec] 38) = w1 from hw1)
  have HK := Lib.hid hblk
  have HB := Lib.hid hbx
  obtain ⟨b, hb⟩ : ∃ b, w.heap.size = b := ⟨_, rfl⟩
  rw [hb] at HK
  have HBB := Lib.hid hb
  clear hw1 hbx hblk hb
  by_cases hc : chkE e = 0
  case neg =>
    have HR := Lib.hid (show TxtE e = ([], chkE e) by unfold TxtE; rw [if_pos hc])
    obtain ⟨v, hv⟩ : ∃ v, chkE e = v := ⟨_, rfl⟩
    rw [hv] at HR hc
    have HV := Lib.hid hv
    have g1 : (v != 0) = true := by simpa using hc
    clear hc hv
    unfold evV
    go_enter Tryz.func19, Tryz.ntmps19
    go_wp2_with (first | rw [SW1.out, HBB.out] | (refine wpList_loadC rfl _ 38 rfl b 38 (evE e) _ rfl (by rfl) (by rfl) (by rfl) HK.out ?_))
    refine (chke_p e w1).mono ?_
    rintro e' w2 ⟨rfl, hb2⟩
    rw [HV.out]
    go_wp2_with (fail)
    go_ret2
    rw [HR.out]
    exact ⟨rfl, cur_step1 HB.out hb2⟩
  have hok := okE_of hc
  have HR := Lib.hid (show TxtE e = (txtE e, 0) by unfold TxtE; rw [if_neg (by simpa using hc)])
  have hkb : 1 ≤ e.kind ∧ e.kind ≤ 16 := hok.kind
  obtain ⟨n, hn, hkn⟩ : ∃ n : Nat, n < 16 ∧ e.kind = (n : Int) + 1 := ⟨(e.kind - 1).toNat, by omega, by omega⟩
  have HC := Lib.hid hc
  have HOK := Lib.hid hok
  have HKN := Lib.hid hkn
  unfold evV
  clear hc hok hkb hkn
  go_enter Tryz.func19, Tryz.ntmps19
  go_wp2_with (first | rw [SW1.out, HBB.out] | (refine wpList_loadC rfl _ 38 rfl b 38 (evE e) _ rfl (by rfl) (by rfl) (by rfl) HK.out ?_))
  refine (chke_p e w1).mono ?_
  rintro e' w2 ⟨rfl, hb2⟩
  rw [HC.out]
  generalize Value.agg #[.int .u8 e.kind, .int .i64 e.side, .int .i64 e.player, .int .i64 e.other, .bool e.yes, .int .i64 e.runs, .int .i64 e.overs, .int .u8 e.ball.ty, .int .u8 e.ball.src, .int .i64 e.ball.runs, .int .i64 e.ball.short, .int .i64 e.ball.bd, .bool e.ball.cr, .int .u8 e.ball.how, .int .i64 e.ball.vic, .int .i64 e.ball.fd, .int .i64 e.ball.sd, .bool e.ball.sub, .int .i64 e.ball.sec] = av
  have HK2 := Lib.hid (HK.out.to hb2)
  have HB2 := Lib.hid (cur_step1 HB.out hb2)
  have hk0 : w2.cell? ⟨b, 0, none⟩ = some (.int .u8 ((n : Int) + 1)) := by rw [HK2.out.cell]; show some (Value.int .u8 e.kind) = _; rw [HKN.out]
  have hbl := HK2.out.lt
  have hw8 := wrap8s hn
  clear SW1 hb2 HK
  obtain ⟨s0, hs0⟩ : ∃ y, sA (wordT.getD n []) = y := ⟨_, rfl⟩
  have HF0 := Lib.hid (show fmL[n * 4 + 0]? = some (.string s0) by rw [← hs0]; exact fm_at hn (by decide))
  have NS0 := Lib.hid hs0
  clear hs0
  obtain ⟨s1, hs1⟩ : ∃ y, sA (fldsT.getD n []) = y := ⟨_, rfl⟩
  have HF1 := Lib.hid (show fmL[n * 4 + 1]? = some (.string s1) by rw [← hs1]; exact fm_at hn (by decide))
  have NS1 := Lib.hid hs1
  clear hs1
  obtain ⟨s2, hs2⟩ : ∃ y, sA (yesT.getD n []) = y := ⟨_, rfl⟩
  have HF2 := Lib.hid (show fmL[n * 4 + 2]? = some (.string s2) by rw [← hs2]; exact fm_at hn (by decide))
  have NS2 := Lib.hid hs2
  clear hs2
  obtain ⟨s3, hs3⟩ : ∃ y, sA (noT.getD n []) = y := ⟨_, rfl⟩
  have HF3 := Lib.hid (show fmL[n * 4 + 3]? = some (.string s3) by rw [← hs3]; exact fm_at hn (by decide))
  have NS3 := Lib.hid hs3
  clear hs3
  have HF := Lib.hid (And.intro HF0.out (And.intro HF1.out (And.intro HF2.out HF3.out)))
  have hn1 : (n : Int) < 16 := by omega
  have hn0 : (0 : Int) ≤ n := by omega
  have hn2 : ((n : Int)).toNat = n := rfl
  have hw9 : IntKind.u8.wrap (n : Int) = n := by have := hw8; rwa [show (n : Int) + 1 - 1 = n by omega] at this
  go_upto_region 4 with (fail)
  go_cut [5] (fun v wx => ∃ f, v = .pointer (some ⟨f, 0, none⟩) ∧ Blk wx f 91 (fmE n) ∧ Blk wx b 38 (evE e) ∧ w2.heap.size ≤ f ∧ Below w2.heap.size w2 wx)
  case first =>
    obtain ⟨N, hN⟩ : ∃ N : Nat, N = 4 := ⟨_, rfl⟩
    have hA : ∀ w, Sem.run Tryz.prog (isAgg 91) w = .ok true w := fun w => Tryz.isAgg91 w
    have hZ : ∀ w, Sem.run Tryz.prog (sizeOf 91) w = .ok N w := fun w => by rw [hN]; exact Tryz.sizeOf91 w
    have HN := Lib.hid (show (fmE n).length = N by rw [hN]; rfl)
    have HXS := Lib.hid (show ∀ (j : Nat) (v : Value), (fmE n)[j]? = some v → fmL[n * 4 + j]? = some v from fun j v hv => (fm_at hn (by have := (List.getElem?_eq_some_iff.1 hv).1; exact this)).trans hv)
    clear hN
    go_region_with (refine (forms_q _).mono ?_; rintro e' w3 ⟨rfl, qf, qb⟩; have k0' : w3.cell? ⟨b, 0, none⟩ = some (.int .u8 ((n : Int) + 1)) := (qb.cell (p := ⟨b, 0, none⟩) (by first | exact hbl | (simp only [World.size_drew, World.size_alloc]; omega))).trans (by first | exact hk0 | exact ((cur_new w2 _).cell (p := ⟨b, 0, none⟩) hbl).trans hk0); have ql := qf.lt; have qbl : b < w3.heap.size := (by first | (simp only [World.size_drew, World.size_alloc] at ql; omega) | omega); have hl1 := form_load qf HXS.out rfl HN.out; have hl2 := form_load (qf.to (cur_new w3 (.cells #[.string ⟨#[]⟩, .string ⟨#[]⟩, .string ⟨#[]⟩, .string ⟨#[]⟩] 91))) HXS.out rfl HN.out; have hs1 := form_store n (Blk.new w3 91 [.string ⟨#[]⟩, .string ⟨#[]⟩, .string ⟨#[]⟩, .string ⟨#[]⟩]); have hlen : ((fmE n).length = N) = True := eq_true HN.out; have k0z : (w3.alloc (.cells #[.string ⟨#[]⟩, .string ⟨#[]⟩, .string ⟨#[]⟩, .string ⟨#[]⟩] 91)).cell? ⟨b, 0, none⟩ = some (.int .u8 ((n : Int) + 1)) := ((cur_new w3 _).cell (p := ⟨b, 0, none⟩) qbl).trans k0'; (try simp only [World.size_drew, World.size_alloc] at hl1 hl2 ql); (try have hs2 := form_store n (form_zero qb)))
    all_goals (go_wp2_with (fail))
    all_goals go_meet
    all_goals first | exact form_relA HK2.out ⟨qb.os, qb.tape, qb.output, qb.size, qb.block⟩ | exact form_relB HK2.out qb
  case rest =>
  obtain ⟨f, rfl, hbf, hbe, hf, hb⟩ := hcut
  have HBE := Lib.hid hbe
  have HBF := Lib.hid hbf
  have HBW := Lib.hid (cur_step1 HB2.out hb)
  have f0 : wc.cell? ⟨f, 0, none⟩ = some (.string s0) := by rw [← NS0.out]; exact hbf.cell 0
  have f1 : wc.cell? ⟨f, 1, none⟩ = some (.string s1) := by rw [← NS1.out]; exact hbf.cell 1
  have k0 : wc.cell? ⟨b, 0, none⟩ = some (.int .u8 ((n : Int) + 1)) := by rw [hbe.cell]; show some (Value.int .u8 e.kind) = _; rw [HKN.out]
  have k4 : wc.cell? ⟨b, 4, none⟩ = some (.bool e.yes) := hbe.cell 4
  have lf := hbf.lt
  have lb := hbe.lt
  have lw := HBW.out.size
  have HFB := Lib.hid (show b < f by omega)
  clear hbf hbe hf hb hk0 hbl hw8 hw9 hn2 HB HB2 HK2
  obtain ⟨base, hbase⟩ : ∃ y, wc.heap.size = y := ⟨_, rfl⟩
  have HBS := Lib.hid hbase
  obtain ⟨tv, htv⟩ : ∃ y, decide (n = 4 ∧ e.yes = true) = y := ⟨_, rfl⟩
  have HTV := Lib.hid htv
  clear htv
  obtain ⟨ey, hey⟩ : ∃ y, e.yes = y := ⟨_, rfl⟩
  rw [hey] at k4
  have HEY := Lib.hid hey
  clear hey
  obtain ⟨W5, hW5⟩ : ∃ y, ((wc.alloc (.cells #[.string s0] 9)).alloc (.cells #[.slice (some ⟨wc.heap.size, 0, none⟩) 1 1] 75)) = y := ⟨_, rfl⟩
  have HS5 := Lib.hid (show TxS e n f b (base + 1) base w W5 [wordT.getD n []] (some ⟨base, 0, none⟩) 1 by rw [← hW5, ← HBS.out, ← NS0.out]; exact tx_new HBF.out HBE.out HBW.out _)
  have HSO := Lib.hid (show TxS e n f b (base + 1) base w (W5.setCell ⟨base, 0, none⟩ (.string ⟨#[84, 73, 77, 69, 79, 85, 84]⟩)) [sTO] (some ⟨base, 0, none⟩) 1 by rw [← hW5, ← HBS.out]; exact tx_time HBF.out HBE.out HBW.out _)
  have h50 : W5.cell? ⟨b, 0, none⟩ = some (.int .u8 ((n : Int) + 1)) := by rw [HS5.out.ev.cell]; show some (Value.int .u8 e.kind) = _; rw [HKN.out]
  have h54 : W5.cell? ⟨b, 4, none⟩ = some (.bool ey) := by rw [← HEY.out]; exact HS5.out.ev.cell 4
  have h5b := HS5.out.ev.lt
  have h5p := HS5.out.wd.box.cell 0
  simp only [List.getElem?_cons_zero] at h5p
  have hw8 := wrap8s hn
  rw [hbase] at hW5
  have HW5 := Lib.hid hW5
  clear hW5 hbase k0 k4 lb
  go_upto_region 6 with (fail)
  rw [HBS.out, HW5.out]
  go_cut [32] (fun v wx => v = .bool tv ∧ wx = W5)
  case first =>
    by_cases h4 : n = 4
    · subst h4
      have HT2 := Lib.hid (show tv = ey by rw [← HTV.out, HEY.out]; cases ey <;> rfl)
      cases ey
      · go_wp2_with (fail)
        go_meet
        case rel => exact ⟨by rw [HT2.out], rfl⟩
      · go_wp2_with (fail)
        go_meet
        case rel => exact ⟨by rw [HT2.out], rfl⟩
    · have g4 : ((n : Int) + 1 == 5) = false := by simp; omega
      have HT2 := Lib.hid (show tv = false by rw [← HTV.out]; simp [h4])
      clear h4
      go_wp2_with (fail)
      go_meet
      case rel => exact ⟨by rw [HT2.out], rfl⟩
  case rest =>
  obtain ⟨rfl, rfl⟩ := hcut
  go_upto_if 32 with (fail)
  go_cut [] (fun wx => TxS e n f b (base + 1) base w wx [word0 e] (some ⟨base, 0, none⟩) 1)
  case first =>
    cases tv
    · have HT := Lib.hid (show word0 e = wordT.getD n [] by unfold word0 wordL; rw [if_neg (fun q => by have := HTV.out; simp at this; exact absurd q.2 (by simpa using this (by have := q.1; have := HKN.out; omega))), HKN.out, show ((n : Int) + 1 - 1).toNat = n by omega])
      go_wp2_with (fail)
      go_meet
      case rel =>
        rw [HT.out]
        exact HS5.out
    · have HT := Lib.hid (show word0 e = sTO by unfold word0; rw [if_pos (by have := HTV.out; simp at this; exact ⟨by rw [HKN.out, this.1]; rfl, this.2⟩)])
      have h5z := HS5.out.wd.own
      have z1 : wc.cell? ⟨base, 0, none⟩ = some (.string s0) := by rw [← NS0.out]; exact (HS5.out.wd.own.cells (g := base) rfl 0 _ rfl)
      have z2 : wc.frozen? ⟨base, 0, none⟩ = false := HS5.out.wd.own.frozenAt 0
      have z3 : base < wc.heap.size := (own_block_lt HS5.out.wd.own rfl).2
      go_wp2_with (fail)
      go_meet
      case rel =>
        rw [HT.out]
        exact HSO.out
  case rest =>
  have HS := Lib.hid hcut
  have HWBASE := Lib.hid (show w.heap.size ≤ base by have := HBW.out.size; have := HBS.out; omega)
  have HFBASE := Lib.hid (show f < base by have := HBF.out.lt; have := HBS.out; omega)
  have HBBASE := Lib.hid (show b < base by have := HBE.out.lt; have := HBS.out; omega)
  clear hcut HBW HBS HBF HBE HTV
  obtain ⟨nl, hnl⟩ : ∃ y, noT.getD n [] = y := ⟨_, rfl⟩
  have HNL := Lib.hid hnl
  obtain ⟨yl, hyl⟩ : ∃ y, yesT.getD n [] = y := ⟨_, rfl⟩
  have HYL := Lib.hid hyl
  clear hnl hyl
  obtain ⟨FL, hFL⟩ : ∃ y, fldsT.getD n [] = y := ⟨_, rfl⟩
  have hfl2 : FL.length ≤ 2 := by rw [← hFL]; exact flds_len hn
  have HFL := Lib.hid hFL
  have HSF := Lib.hid (show sA FL = s1 by rw [← hFL]; exact NS1.out)
  have hsz1 : s1.size = FL.length := by rw [← HSF.out]; rfl
  have f1 : wc.cell? ⟨f, 1, none⟩ = some (.string s1) := by rw [← NS1.out]; exact HS.out.fm.cell 1
  have HH := Lib.hid hh
  have HL := Lib.hid hw
  clear hFL hh hw
  go_wp2_with (fail)
  go_loopw [39] (TxR e n f b (base + 1) base w) (fun i _ => FL.length - (intOf i).toNat)
  case atStart => exact ⟨0, some ⟨base, 0, none⟩, 1, by omega, rfl, HS.out⟩
  case round =>
    obtain ⟨k, A, cc, hk, rfl, hS⟩ := hrel
    rw [HFL.out] at hk hS
    have HS := Lib.hid hS
    obtain ⟨WL, hWL⟩ : ∃ y, word0 e :: (FL.take k).map (fieldL e) = y := ⟨_, rfl⟩
    rw [hWL] at HS
    have HWL := Lib.hid hWL
    have hwm : WL.length ≤ 3 := by rw [← hWL]; simp; omega
    clear hS hWL
    have f1 : wr.cell? ⟨f, 1, none⟩ = some (.string s1) := by rw [← NS1.out]; exact HS.out.fm.cell 1
    have f2 : wr.cell? ⟨f, 2, none⟩ = some (.string s2) := by rw [← NS2.out]; exact HS.out.fm.cell 2
    have f3 : wr.cell? ⟨f, 3, none⟩ = some (.string s3) := by rw [← NS3.out]; exact HS.out.fm.cell 3
    have u0 : wr.cell? ⟨base + 1, 0, none⟩ = some (.slice A WL.length cc) := HS.out.wd.box.cell 0
    have u1 := HS.out.wd.box.lt
    have u2 := HS.out.wd.box.frozen 0
    by_cases hkl : k < FL.length
    · obtain ⟨c, hck⟩ : ∃ c, FL[k]? = some c := ⟨_, List.getElem?_eq_getElem hkl⟩
      obtain ⟨hz, hsj⟩ := sA_at HSF.out hck
      have h256 : c.toNat < 256 := c.toNat_lt
      have HCM := Lib.hid (List.mem_of_getElem? hck)
      have HFT := Lib.hid (fits_of HOK.out hn HKN.out (c := c) (by rw [HFL.out]; exact HCM.out))
      have HCK := Lib.hid hck
      have HK8 := Lib.hid (show k + 1 ≤ (fldsT.getD n []).length by rw [HFL.out]; exact hkl)
      have HTK := Lib.hid (show WL ++ [fieldL e c] = word0 e :: ((fldsT.getD n []).take (k + 1)).map (fieldL e) by rw [← HWL.out, HFL.out, List.take_add_one, HCK.out]; simp)
      clear hck
      have hm := flds_mem hn c (by rw [HFL.out]; exact HCM.out)
      simp only [allC, List.mem_cons, List.not_mem_nil, or_false] at hm
      rcases hm with hm | hm | hm | hm | hm | hm | hm
      · have HCE := Lib.hid hm
        have hcn : c.toNat = 115 := by rw [hm]; rfl
        clear hm
        have HFE := Lib.hid (show fieldL e c = dcB e.side by rw [HCE.out]; rfl)
        have hrng : 0 ≤ e.side ∧ e.side ≤ 1000000 := by have := HFT.out; rw [HCE.out] at this; exact btw_le this (by decide) (by decide)
        have v1 : wr.cell? ⟨b, 1, none⟩ = some (.int .i64 e.side) := HS.out.ev.cell 1
        have HRG := Lib.hid hrng
        clear hrng
        go_wp2_with (fail)
        refine (text1_p e.side HRG.out.1 HRG.out.2 (base + 1) base _ (by omega) A cc wr (HL.out.to HS.out.bl) HS.out.wd (by have := HS.out.wd.box.lt; omega)).mono ?_
        rintro e' w6 ⟨rfl, A', c', hwd, hkp⟩
        rw [← HFE.out, HTK.out] at hwd
        have HN := Lib.hid (HS.out.kp hkp hwd (by omega) HFBASE.out HBBASE.out HWBASE.out)
        clear hwd hkp
        go_wp2_with (fail)
        exact ⟨⟨k + 1, A', c', HK8.out, rfl, HN.out⟩, by show FL.length - (k + 1) < FL.length - k; omega⟩
      · have HCE := Lib.hid hm
        have hcn : c.toNat = 112 := by rw [hm]; rfl
        clear hm
        have HFE := Lib.hid (show fieldL e c = dcB e.player by rw [HCE.out]; rfl)
        have hrng : 0 ≤ e.player ∧ e.player ≤ 1000000 := by have := HFT.out; rw [HCE.out] at this; exact btw_le this (by decide) (by decide)
        have v2 : wr.cell? ⟨b, 2, none⟩ = some (.int .i64 e.player) := HS.out.ev.cell 2
        have HRG := Lib.hid hrng
        clear hrng
        go_wp2_with (fail)
        refine (text1_p e.player HRG.out.1 HRG.out.2 (base + 1) base _ (by omega) A cc wr (HL.out.to HS.out.bl) HS.out.wd (by have := HS.out.wd.box.lt; omega)).mono ?_
        rintro e' w6 ⟨rfl, A', c', hwd, hkp⟩
        rw [← HFE.out, HTK.out] at hwd
        have HN := Lib.hid (HS.out.kp hkp hwd (by omega) HFBASE.out HBBASE.out HWBASE.out)
        clear hwd hkp
        go_wp2_with (fail)
        exact ⟨⟨k + 1, A', c', HK8.out, rfl, HN.out⟩, by show FL.length - (k + 1) < FL.length - k; omega⟩
      · have HCE := Lib.hid hm
        have hcn : c.toNat = 111 := by rw [hm]; rfl
        clear hm
        have HFE := Lib.hid (show fieldL e c = dcB e.other by rw [HCE.out]; rfl)
        have hrng : 0 ≤ e.other ∧ e.other ≤ 1000000 := by have := HFT.out; rw [HCE.out] at this; exact btw_le this (by decide) (by decide)
        have v3 : wr.cell? ⟨b, 3, none⟩ = some (.int .i64 e.other) := HS.out.ev.cell 3
        have HRG := Lib.hid hrng
        clear hrng
        go_wp2_with (fail)
        refine (text1_p e.other HRG.out.1 HRG.out.2 (base + 1) base _ (by omega) A cc wr (HL.out.to HS.out.bl) HS.out.wd (by have := HS.out.wd.box.lt; omega)).mono ?_
        rintro e' w6 ⟨rfl, A', c', hwd, hkp⟩
        rw [← HFE.out, HTK.out] at hwd
        have HN := Lib.hid (HS.out.kp hkp hwd (by omega) HFBASE.out HBBASE.out HWBASE.out)
        clear hwd hkp
        go_wp2_with (fail)
        exact ⟨⟨k + 1, A', c', HK8.out, rfl, HN.out⟩, by show FL.length - (k + 1) < FL.length - k; omega⟩
      · have HCE := Lib.hid hm
        have hcn : c.toNat = 121 := by rw [hm]; rfl
        clear hm
        cases ey
        · have HFE := Lib.hid (show fieldL e c = nl by rw [HCE.out]; show (if e.yes then yesL e.kind else noL e.kind) = _; rw [HEY.out]; unfold yesL noL; rw [HKN.out, show ((n : Int) + 1 - 1).toNat = n by omega]; exact HNL.out)
          have v4 : wr.cell? ⟨b, 4, none⟩ = some (.bool false) := by rw [← HEY.out]; exact HS.out.ev.cell 4
          have HSV := Lib.hid (show stE nl = [.string s3] by unfold stE; rw [← HNL.out, NS3.out])
          go_wp2_with (at_builtin; refine wpList_app1 Tryz.stElem _ rfl (.tmp 96) (.tmp 98) rfl base A cc _ rfl ?o1 nl wr.heap.size 1 rfl ?o2 ?o3 ?o4 ?o5 ?_)
          case o1 => exact World.ownsRow.alloc (HS.out).wd.own _
          case o2 => first | (rw [HSV.out]; exact heap_alloc_new _ _) | exact heap_alloc_new _ _
          case o3 => unfold maxLen; omega
          case o4 => omega
          case o5 => have := (HS.out).wd.box.lt; first | omega | (simp; omega)
          intro g cap w7 ha
          have hadd := (HS.out).wd.add (cur_new wr _) ha
          have e0 : w7.cell? ⟨base + 1, 0, none⟩ = some (.slice A WL.length cc) := hadd.2.2.cell 0
          have e1 := hadd.2.2.frozen 0
          have e2 := hadd.2.2.lt
          have hwd := hadd.1
          rw [← HFE.out, HTK.out] at hwd
          have HN := Lib.hid ((HS.out).kp hadd.2.1 hwd (by omega) HFBASE.out HBBASE.out HWBASE.out)
          have HLN := Lib.hid (show WL.length + 1 = (word0 e :: ((fldsT.getD n []).take (k + 1)).map (fieldL e)).length by rw [← HTK.out, List.length_append]; rfl)
          clear ha hadd hwd
          go_wp2_with (fail)
          exact ⟨⟨k + 1, some ⟨g, 0, none⟩, cap, HK8.out, rfl, HN.out⟩, by show FL.length - (k + 1) < FL.length - k; omega⟩
        · have HFE := Lib.hid (show fieldL e c = yl by rw [HCE.out]; show (if e.yes then yesL e.kind else noL e.kind) = _; rw [HEY.out]; unfold yesL noL; rw [HKN.out, show ((n : Int) + 1 - 1).toNat = n by omega]; exact HYL.out)
          have v4 : wr.cell? ⟨b, 4, none⟩ = some (.bool true) := by rw [← HEY.out]; exact HS.out.ev.cell 4
          have HSV := Lib.hid (show stE yl = [.string s2] by unfold stE; rw [← HYL.out, NS2.out])
          go_wp2_with (at_builtin; refine wpList_app1 Tryz.stElem _ rfl (.tmp 96) (.tmp 98) rfl base A cc _ rfl ?o1 yl wr.heap.size 1 rfl ?o2 ?o3 ?o4 ?o5 ?_)
          case o1 => exact World.ownsRow.alloc (HS.out).wd.own _
          case o2 => first | (rw [HSV.out]; exact heap_alloc_new _ _) | exact heap_alloc_new _ _
          case o3 => unfold maxLen; omega
          case o4 => omega
          case o5 => have := (HS.out).wd.box.lt; first | omega | (simp; omega)
          intro g cap w7 ha
          have hadd := (HS.out).wd.add (cur_new wr _) ha
          have e0 : w7.cell? ⟨base + 1, 0, none⟩ = some (.slice A WL.length cc) := hadd.2.2.cell 0
          have e1 := hadd.2.2.frozen 0
          have e2 := hadd.2.2.lt
          have hwd := hadd.1
          rw [← HFE.out, HTK.out] at hwd
          have HN := Lib.hid ((HS.out).kp hadd.2.1 hwd (by omega) HFBASE.out HBBASE.out HWBASE.out)
          have HLN := Lib.hid (show WL.length + 1 = (word0 e :: ((fldsT.getD n []).take (k + 1)).map (fieldL e)).length by rw [← HTK.out, List.length_append]; rfl)
          clear ha hadd hwd
          go_wp2_with (fail)
          exact ⟨⟨k + 1, some ⟨g, 0, none⟩, cap, HK8.out, rfl, HN.out⟩, by show FL.length - (k + 1) < FL.length - k; omega⟩
      · have HCE := Lib.hid hm
        have hcn : c.toNat = 114 := by rw [hm]; rfl
        clear hm
        have HFE := Lib.hid (show fieldL e c = dcB e.runs by rw [HCE.out]; rfl)
        have hrng : 0 ≤ e.runs ∧ e.runs ≤ 1000000 := by have := HFT.out; rw [HCE.out] at this; exact runs_le this
        have v5 : wr.cell? ⟨b, 5, none⟩ = some (.int .i64 e.runs) := HS.out.ev.cell 5
        have HRG := Lib.hid hrng
        clear hrng
        go_wp2_with (fail)
        refine (text1_p e.runs HRG.out.1 HRG.out.2 (base + 1) base _ (by omega) A cc wr (HL.out.to HS.out.bl) HS.out.wd (by have := HS.out.wd.box.lt; omega)).mono ?_
        rintro e' w6 ⟨rfl, A', c', hwd, hkp⟩
        rw [← HFE.out, HTK.out] at hwd
        have HN := Lib.hid (HS.out.kp hkp hwd (by omega) HFBASE.out HBBASE.out HWBASE.out)
        clear hwd hkp
        go_wp2_with (fail)
        exact ⟨⟨k + 1, A', c', HK8.out, rfl, HN.out⟩, by show FL.length - (k + 1) < FL.length - k; omega⟩
      · have HCE := Lib.hid hm
        have hcn : c.toNat = 118 := by rw [hm]; rfl
        clear hm
        have HFE := Lib.hid (show fieldL e c = dcB e.overs by rw [HCE.out]; rfl)
        have hrng : 0 ≤ e.overs ∧ e.overs ≤ 1000000 := by have := HFT.out; rw [HCE.out] at this; exact btw_le this (by decide) (by decide)
        have v6 : wr.cell? ⟨b, 6, none⟩ = some (.int .i64 e.overs) := HS.out.ev.cell 6
        have HRG := Lib.hid hrng
        clear hrng
        go_wp2_with (fail)
        refine (text1_p e.overs HRG.out.1 HRG.out.2 (base + 1) base _ (by omega) A cc wr (HL.out.to HS.out.bl) HS.out.wd (by have := HS.out.wd.box.lt; omega)).mono ?_
        rintro e' w6 ⟨rfl, A', c', hwd, hkp⟩
        rw [← HFE.out, HTK.out] at hwd
        have HN := Lib.hid (HS.out.kp hkp hwd (by omega) HFBASE.out HBBASE.out HWBASE.out)
        clear hwd hkp
        go_wp2_with (fail)
        exact ⟨⟨k + 1, A', c', HK8.out, rfl, HN.out⟩, by show FL.length - (k + 1) < FL.length - k; omega⟩
      · have HCE := Lib.hid hm
        have hcn : c.toNat = 98 := by rw [hm]; rfl
        clear hm
        have hn3 := kind_ball hn (by rw [HFL.out, ← HCE.out]; exact HCM.out)
        have HFE := Lib.hid (show fieldL e c = prtD e.ball by rw [HCE.out]; rfl)
        have HCB := Lib.hid (HOK.out.ball (by rw [HKN.out, hn3]; rfl))
        have hcb := HS.out.ev.cell
        have v7 := hcb 7
        have v8 := hcb 8
        have v9 := hcb 9
        have v10 := hcb 10
        have v11 := hcb 11
        have v12 := hcb 12
        have v13 := hcb 13
        have v14 := hcb 14
        have v15 := hcb 15
        have v16 := hcb 16
        have v17 := hcb 17
        have v18 := hcb 18
        simp only [evE, delE, List.cons_append, List.nil_append, List.getElem?_cons_succ, List.getElem?_cons_zero] at v7 v8 v9 v10 v11 v12 v13 v14 v15 v16 v17 v18
        clear hcb
        go_wp2_with (fail)
        refine (print_p e.ball HCB.out HH.out _ (HL.out.to HS.out.bl)).mono ?_
        rintro e' w6 ⟨rfl, hb6⟩
        have HS6 := Lib.hid (HS.out.to hb6)
        clear hb6 v7 v8 v9 v10 v11 v12 v13 v14 v15 v16 v17 v18
        obtain ⟨sv, hsv⟩ : ∃ y, sA (prtD e.ball) = y := ⟨_, rfl⟩
        rw [hsv]
        have HSV := Lib.hid (show stE (prtD e.ball) = [.string sv] by rw [← hsv]; rfl)
        have u0 : w6.cell? ⟨base + 1, 0, none⟩ = some (.slice A WL.length cc) := HS6.out.wd.box.cell 0
        have u1 := HS6.out.wd.box.lt
        have u2 := HS6.out.wd.box.frozen 0
        clear hsv
        go_wp2_with (at_builtin; refine wpList_app1 Tryz.stElem _ rfl (.tmp 84) (.tmp 86) rfl base A cc _ rfl ?o1 (prtD e.ball) w6.heap.size 1 rfl ?o2 ?o3 ?o4 ?o5 ?_)
        case o1 => exact World.ownsRow.alloc (HS6.out).wd.own _
        case o2 => first | (rw [HSV.out]; exact heap_alloc_new _ _) | exact heap_alloc_new _ _
        case o3 => unfold maxLen; omega
        case o4 => omega
        case o5 => have := (HS6.out).wd.box.lt; first | omega | (simp; omega)
        intro g cap w7 ha
        have hadd := (HS6.out).wd.add (cur_new w6 _) ha
        have e0 : w7.cell? ⟨base + 1, 0, none⟩ = some (.slice A WL.length cc) := hadd.2.2.cell 0
        have e1 := hadd.2.2.frozen 0
        have e2 := hadd.2.2.lt
        have hwd := hadd.1
        rw [← HFE.out, HTK.out] at hwd
        have HN := Lib.hid ((HS6.out).kp hadd.2.1 hwd (by omega) HFBASE.out HBBASE.out HWBASE.out)
        have HLN := Lib.hid (show WL.length + 1 = (word0 e :: ((fldsT.getD n []).take (k + 1)).map (fieldL e)).length by rw [← HTK.out, List.length_append]; rfl)
        clear ha hadd hwd
        go_wp2_with (fail)
        exact ⟨⟨k + 1, some ⟨g, 0, none⟩, cap, HK8.out, rfl, HN.out⟩, by show FL.length - (k + 1) < FL.length - k; omega⟩
    · have hk9 : k = FL.length := by omega
      have g9 : ¬ k < FL.length := hkl
      have HW9 := Lib.hid (show WL = wordsE e by rw [← HWL.out]; unfold wordsE fldsL; rw [HKN.out, show ((n : Int) + 1 - 1).toNat = n by omega, HFL.out, hk9, List.take_length])
      have HFIN := Lib.hid (show txtE e = joinS (wordsE e) from rfl)
      clear hk9
      go_wp2_with (fail)
      have ho := HS.out.wd.own
      rw [HW9.out] at ho ⊢
      refine (join_own (by unfold wordsE; simp) (by rw [← HW9.out]; omega) (by have := txt_len HOK.out; omega) _ ho).mono ?_
      rintro e' w6 ⟨rfl, hb6⟩
      go_wp2_with (fail)
      go_ret2
      rw [HR.out]
      exact ⟨rfl, cur_step1 HS.out.bl hb6⟩
end
end Go.Proofs.YtdbiihfoafoljaaGreatDoor
