/-
  Chapter 56: plain specification.
-/
import Derived.Test.YtpninpohligomaaGreatDoorSpec54
set_option linter.unusedSimpArgs false
set_option linter.unusedVariables false
namespace Go.Proofs.YtpninpohligomaaGreatDoor
open Go.RowKit

structure Of where
  id : Int
  p : ByteArray
  d : Int
  n : Int
instance : Inhabited Of := ⟨⟨0, ⟨#[]⟩, 0, 0⟩⟩
def ofE (z : Of) : List Value := [.int .i64 z.id, .string z.p, .int .i64 z.d, .int .i64 z.n]
theorem ofE_len (z : Of) : (ofE z).length = 4 := rfl
def inE (x : Int) : List Value := [.int .i64 x]
theorem inE_len (x : Int) : (inE x).length = 1 := rfl
def badP (a b : Of) : Bool := decide (b.d < a.d) || (decide (b.d = a.d) && decide (b.id ≤ a.id))
def befO (l : List Of) (i : Nat) (x : Of) : Bool := match i with
  | 0 => false
  | j + 1 => match l[j]? with
    | some y => badP y x
    | none => false
def seenO (l : List Of) (i : Nat) (v : Int) : Bool := (l.take i).any fun y => y.id == v
def errO (l : List Of) (i : Nat) (z : Of) : Int :=
  if decide (z.id < 1) || decide (1099511627776 < z.id) then 2
  else if !nameB z.p then 5
  else if !isDayB z.d || (decide (z.n < 1) || decide (8 < z.n)) then 2
  else if befO l i z then 8
  else if seenO l i z.id then 7 else 0
def oErr (l : List Of) (i : Nat) : Int := match l[i]? with
  | some z => errO l i z
  | none => 0
def ckO (l : List Of) : Int := if 2000 < l.length then 9 else resW (oErr l) (scan (oErr l) l.length)
/-- Does an entry count? -/
def cntO (p : ByteArray) (d : Int) (z : Of) : Bool := seq z.p p && (decide (z.d ≤ d) && decide (d - 730 < z.d))
def ptsL (p : ByteArray) (d : Int) : List Of → Int
  | [] => 0
  | z :: l => (if cntO p d z then z.n else 0) + ptsL p d l
theorem ptsL_append (p : ByteArray) (d : Int) (a b : List Of) : ptsL p d (a ++ b) = ptsL p d a + ptsL p d b := by
  induction a with
  | nil => simp [ptsL]
  | cons z a ih => simp only [List.cons_append, ptsL, ih]; omega
/-- Points: the points and the error. -/
def pointsS (l : List Of) (p : ByteArray) (d : Int) : Int × Int := if ckO l ≠ 0 then (0, ckO l) else if isDayB d then (ptsL p d l, 0) else (0, 2)

/-! The days of matches -/
def mErr (l : List Int) (i : Nat) : Int := match i with
  | 0 => 0
  | j + 1 => match l[j]?, l[j + 1]? with
    | some y, some x => if x ≤ y then 8 else 0
    | _, _ => 0
def ckM (l : List Int) : Int := if l.any (fun d => !isDayB d) then 2 else resW (mErr l) (scan (mErr l) l.length)
/-- One entry: the marks from place k on. -/
def markR (d : Int) : List Int → List Bool → Int → List Bool
  | m :: ms, b :: bs, c => if decide (0 < c) && (decide (d < m) && !b) then true :: markR d ms bs (c - 1) else b :: markR d ms bs c
  | _, bs, _ => bs
def costF (p : ByteArray) (pre : List Of) (z : Of) : Int := 2 * ((ptsL p z.d pre + z.n) / 4 - ptsL p z.d pre / 4)
/-- The marks behind some entries: 'pre' are those before. -/
def marksF (p : ByteArray) (ms : List Int) : List Of → List Of → List Bool → List Bool
  | _, [], m => m
  | pre, z :: l, m => marksF p ms (pre ++ [z]) l (if seq z.p p then markR z.d ms m (costF p pre z) else m)
theorem marksF_snoc (p : ByteArray) (ms : List Int) (z : Of) : ∀ (a pre : List Of) (m : List Bool), marksF p ms pre (a ++ [z]) m = if seq z.p p then markR z.d ms (marksF p ms pre a m) (costF p (pre ++ a) z) else marksF p ms pre a m
  | [], pre, m => by simp [marksF]
  | y :: a, pre, m => by
    simp only [List.cons_append, marksF]
    rw [marksF_snoc p ms z a]
    simp
def marksO (l : List Of) (p : ByteArray) (ms : List Int) (i : Nat) : List Bool := marksF p ms [] (l.take i) (List.replicate ms.length false)
theorem marksO_step {l : List Of} {i : Nat} {z : Of} (p : ByteArray) (ms : List Int) (h : l[i]? = some z) : marksO l p ms (i + 1) = if seq z.p p then markR z.d ms (marksO l p ms i) (costF p (l.take i) z) else marksO l p ms i := by
  unfold marksO
  rw [List.take_add_one, h]
  exact marksF_snoc p ms z _ _ _
theorem markR_len (d : Int) : ∀ (ms : List Int) (bs : List Bool) (c : Int), (markR d ms bs c).length = bs.length
  | m :: ms, b :: bs, c => by unfold markR; split <;> simp [markR_len d ms bs]
  | [], bs, c => by unfold markR; rfl
  | _ :: _, [], c => rfl
theorem marksF_len (p : ByteArray) (ms : List Int) : ∀ (l pre : List Of) (m : List Bool), (marksF p ms pre l m).length = m.length
  | [], _, _ => rfl
  | z :: l, pre, m => by
    unfold marksF
    rw [marksF_len p ms l]
    split
    · rw [markR_len]
    · rfl
theorem marksO_len (l : List Of) (p : ByteArray) (ms : List Int) (i : Nat) : (marksO l p ms i).length = ms.length := by
  unfold marksO
  rw [marksF_len]; simp
def pick : List Int → List Bool → List Int
  | m :: ms, b :: bs => if b then m :: pick ms bs else pick ms bs
  | _, _ => []
def suspS (l : List Of) (p : ByteArray) (ms : List Int) : List Int × Int :=
  if ckO l ≠ 0 then ([], ckO l) else if ckM ms ≠ 0 then ([], ckM ms) else (pick ms (marksO l p ms l.length), 0)
end Go.Proofs.YtpninpohligomaaGreatDoor
