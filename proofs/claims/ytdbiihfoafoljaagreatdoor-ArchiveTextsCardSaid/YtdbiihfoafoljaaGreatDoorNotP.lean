/-
  Chapter 7: deliveries and their symbols, in plain Lean.
-/
import Derived.Test.YtdbiihfoafoljaaGreatDoorDecP
set_option linter.unusedSimpArgs false
set_option linter.unusedVariables false
namespace Go.Proofs.YtdbiihfoafoljaaGreatDoor
open Go.RowKit
structure Del where
  ty : Int
  src : Int
  runs : Int
  short : Int
  bd : Int
  cr : Bool
  how : Int
  vic : Int
  fd : Int
  sd : Int
  sub : Bool
  sec : Int
  deriving DecidableEq
def zeroD : Del := ⟨0, 0, 0, 0, 0, false, 0, 0, 0, 0, false, 0⟩
def delE (d : Del) : List Value := [.int .u8 d.ty, .int .u8 d.src, .int .i64 d.runs, .int .i64 d.short, .int .i64 d.bd, .bool d.cr, .int .u8 d.how, .int .i64 d.vic, .int .i64 d.fd, .int .i64 d.sd, .bool d.sub, .int .i64 d.sec]
theorem delE_len (d : Del) : (delE d).length = 12 := rfl
def btw (n lo hi : Int) : Bool := decide (lo ≤ n) && decide (n ≤ hi)
/-- The first error of a delivery's form. -/
def chkD (d : Del) : Int :=
  if decide (d.ty < 1) || (decide (3 < d.ty) || (decide (3 < d.src) || decide (10 < d.how))) then 3
  else if !btw d.runs 0 7 || (!btw d.short 0 d.runs || ((d.bd != 0 && (d.bd != 4 && d.bd != 6)) || (!btw d.vic 0 2 || (!btw d.fd 0 11 || (!btw d.sd 0 11 || !btw d.sec 0 8))))) then 2 else 0
/-- The symbol. -/
def dg (n : Int) : List UInt8 := [UInt8.ofNat (48 + n.toNat)]
def tyL (t : Int) : List UInt8 := if t = 2 then [119] else if t = 3 then [110] else []
def srcL (t s : Int) : List UInt8 := if s = 2 then [98] else if s = 3 then [108] else if t = 2 then (if s = 1 then [111] else []) else (if s = 0 then [46] else [])
def runL (d : Del) : List UInt8 := if 0 < d.runs ∨ (srcL d.ty d.src = [] ∧ d.bd = 0 ∧ d.ty ≠ 2) then dg d.runs else []
def bdL (b : Int) : List UInt8 := if b = 4 then [70] else if b = 6 then [83] else []
def shL (n : Int) : List UInt8 := if 0 < n then 45 :: dg n else []
def crL (b : Bool) : List UInt8 := if b then [120] else []
def lettersL : List UInt8 := [78, 66, 67, 76, 83, 72, 82, 84, 79, 77, 81]
def letL (h : Int) : UInt8 := lettersL.getD h.toNat 0
def fldB (d : Del) : Bool := d.fd != 0 || (d.sd != 0 || d.sub)
def fdL (d : Del) : List UInt8 := if fldB d then 40 :: (dcB d.fd ++ ((if d.sd ≠ 0 then 44 :: dcB d.sd else []) ++ ((if d.sub then [115] else []) ++ [41]))) else []
def wkL (d : Del) : List UInt8 := if d.how = 0 ∧ d.vic = 0 ∧ fldB d = false then [] else 47 :: letL d.how :: (dg d.vic ++ fdL d)
def secL (n : Int) : List UInt8 := if 0 < n then 64 :: dg n else []
def prtD (d : Del) : List UInt8 := tyL d.ty ++ (srcL d.ty d.src ++ (runL d ++ (bdL d.bd ++ (shL d.short ++ (crL d.cr ++ (wkL d ++ secL d.sec))))))
/-! Reading from the left. -/
def hasC (s : List UInt8) (c : UInt8) : Bool := s.head? == some c
def takeC (s : List UInt8) (c : UInt8) : List UInt8 := if hasC s c then s.tail else s
def digC (c : UInt8) : Bool := decide (48 ≤ c.toNat) && decide (c.toNat ≤ 57)
def hasD (s : List UInt8) : Bool := match s with
  | [] => false
  | c :: _ => digC c
/-- One digit, if there is one. -/
def rdD (s : List UInt8) : Int × List UInt8 := match s with
  | [] => (0, [])
  | c :: r => if digC c then ((c.toNat : Int) - 48, r) else (0, c :: r)
/-- One or two digits. -/
def rdN (s : List UInt8) : Int × List UInt8 := if hasD (rdD s).2 then (10 * (rdD s).1 + (rdD (rdD s).2).1, (rdD (rdD s).2).2) else rdD s
/-- At most two digits. -/
def rdM (s : List UInt8) : Int × List UInt8 := if hasD s then rdN s else (0, s)
def idxL (c : UInt8) : Int := match lettersL.idxOf? c with
  | some i => i
  | none => 0
end Go.Proofs.YtdbiihfoafoljaaGreatDoor
