/-
  Chapter 8: events and their lines, in plain Lean; a line is read back, by the program's way and by the reference's.
-/
import Derived.Test.YtdbiihfoafoljaaGreatDoorNotL
import Derived.Test.YtdbiihfoafoljaaGreatDoorTokP
set_option linter.unusedSimpArgs false
set_option linter.unusedVariables false
namespace Go.Proofs.YtdbiihfoafoljaaGreatDoor
open Go.RowKit
structure Ev where
  kind : Int
  side : Int
  player : Int
  other : Int
  yes : Bool
  runs : Int
  overs : Int
  ball : Del
  deriving DecidableEq
def zeroE : Ev := ⟨0, 0, 0, 0, false, 0, 0, zeroD⟩
def evE (e : Ev) : List Value := [.int .u8 e.kind, .int .i64 e.side, .int .i64 e.player, .int .i64 e.other, .bool e.yes, .int .i64 e.runs, .int .i64 e.overs] ++ delE e.ball
theorem evE_len (e : Ev) : (evE e).length = 19 := rfl
/-- The fields that a kind's line has, in order: s Side, p Player, o Other, r Runs, v Overs, b Ball, y Yes. -/
def fldsT : List (List UInt8) := [[115, 121], [112, 111], [112], [98], [112], [112, 121], [114], [112], [112, 121], [], [115], [115, 121], [115, 114], [115, 121], [114, 118], []]
def fldsL (k : Int) : List UInt8 := fldsT.getD (k - 1).toNat []
def usesB (k : Int) (c : UInt8) : Bool := (fldsL k).contains c || (k == 5 && c == 121)
def loR (k : Int) : Int := if k = 7 then 0 else if k = 13 then 1 else 0
def hiR (k : Int) : Int := if k = 7 then 11 else if k = 13 then 99 else 100000
/-- Is a field set? Does it fit? -/
def nzF (e : Ev) (c : UInt8) : Bool :=
  if c = 115 then e.side != 0 else if c = 112 then e.player != 0 else if c = 111 then e.other != 0 else if c = 121 then e.yes else if c = 114 then e.runs != 0 else if c = 118 then e.overs != 0 else decide (e.ball ≠ zeroD)
def fitF (e : Ev) (c : UInt8) : Bool :=
  if c = 115 then btw e.side 1 2 else if c = 112 then btw e.player 1 11 else if c = 111 then btw e.other 1 11 else if c = 121 then true else if c = 114 then btw e.runs (loR e.kind) (hiR e.kind) else if c = 118 then btw e.overs 0 90 else true
def allC : List UInt8 := [115, 112, 111, 121, 114, 118, 98]
def chkE (e : Ev) : Int :=
  if decide (e.kind < 1) || decide (16 < e.kind) then 3
  else if allC.any (fun c => nzF e c && !usesB e.kind c) then 1
  else if allC.any (fun c => !fitF e c && usesB e.kind c) then 2
  else if e.kind = 4 then chkD e.ball else 0
/-- The words. -/
def wordT : List (List UInt8) := [[84, 79, 83, 83], [79, 80, 69, 78], [66, 79, 87, 76], [66, 65, 76, 76], [69, 78, 84, 69, 82], [82, 69, 84, 73, 82, 69], [70, 73, 69, 76, 68], [75, 69, 69, 80, 69, 82], [83, 85, 66], [78, 69, 87, 66, 65, 76, 76], [68, 69, 67, 76, 65, 82, 69], [70, 79, 76, 76, 79, 87], [80, 69, 78, 65, 76, 84, 89], [82, 69, 86, 73, 69, 87], [82, 69, 86, 73, 83, 69], [83, 84, 79, 80]]
def sTO : List UInt8 := [84, 73, 77, 69, 79, 85, 84]
def sEN : List UInt8 := [69, 78, 84, 69, 82]
def yesT : List (List UInt8) := [[66, 65, 84], [], [], [], [], [72, 85, 82, 84], [], [], [79, 78], [], [], [89, 69, 83], [], [75, 69, 80, 84], [], []]
def noT : List (List UInt8) := [[70, 73, 69, 76, 68], [], [], [], [], [79, 85, 84], [], [], [79, 70, 70], [], [], [78, 79], [], [76, 79, 83, 84], [], []]
def wordL (k : Int) : List UInt8 := wordT.getD (k - 1).toNat []
def yesL (k : Int) : List UInt8 := yesT.getD (k - 1).toNat []
def noL (k : Int) : List UInt8 := noT.getD (k - 1).toNat []
def fieldL (e : Ev) (c : UInt8) : List UInt8 :=
  if c = 115 then dcB e.side else if c = 112 then dcB e.player else if c = 111 then dcB e.other else if c = 114 then dcB e.runs else if c = 118 then dcB e.overs else if c = 98 then prtD e.ball else (if e.yes then yesL e.kind else noL e.kind)
def word0 (e : Ev) : List UInt8 := if e.kind = 5 ∧ e.yes = true then sTO else wordL e.kind
def wordsE (e : Ev) : List (List UInt8) := word0 e :: (fldsL e.kind).map (fieldL e)
def joinS : List (List UInt8) → List UInt8
  | [] => []
  | w :: ws => if ws = [] then w else w ++ 32 :: joinS ws
def txtE (e : Ev) : List UInt8 := joinS (wordsE e)
def TxtE (e : Ev) : List UInt8 × Int := if chkE e ≠ 0 then ([], chkE e) else (txtE e, 0)
theorem split_join : ∀ {ws : List (List UInt8)}, ws ≠ [] → (∀ w ∈ ws, (32 : UInt8) ∉ w) → splitC 32 (joinS ws) = ws
  | [], h, _ => absurd rfl h
  | [w], _, h => by rw [joinS, if_pos rfl, splitC_none (h w List.mem_cons_self)]
  | w :: v :: r, _, h => by
    rw [joinS, if_neg (by simp), splitC_app (h w List.mem_cons_self), split_join (ws := v :: r) (by simp) (fun x hx => h x (List.mem_cons_of_mem _ hx))]
theorem join_ten : ∀ {ws : List (List UInt8)}, (∀ w ∈ ws, (10 : UInt8) ∉ w) → (10 : UInt8) ∉ joinS ws
  | [], _ => by simp [joinS]
  | w :: ws, h => by
    rw [joinS]
    split
    · exact h w List.mem_cons_self
    · simp only [List.mem_append, List.mem_cons, not_or]
      exact ⟨h w List.mem_cons_self, by decide, join_ten (fun x hx => h x (List.mem_cons_of_mem _ hx))⟩
/-! A symbol has no blank. -/
theorem tok_lit {l : List UInt8} (h : (!l.contains 32 && !l.contains 10) = true) : Tok l := by
  simp only [Bool.and_eq_true, Bool.not_eq_true'] at h
  exact ⟨fun hm => by rw [List.contains_iff_mem.2 hm] at h; exact absurd h.1 (by decide), fun hm => by rw [List.contains_iff_mem.2 hm] at h; exact absurd h.2 (by decide)⟩
theorem tok_nil : Tok [] := by unfold Tok; simp
theorem tok_cat {a b : List UInt8} (ha : Tok a) (hb : Tok b) : Tok (a ++ b) := by
  unfold Tok at *
  simp only [List.mem_append, not_or]
  exact ⟨⟨ha.1, hb.1⟩, ha.2, hb.2⟩
theorem tok_dg {n : Int} (h0 : 0 ≤ n) (h9 : n ≤ 9) : Tok (dg n) := by
  rcases dg_cases h0 h9 with h | h | h | h | h | h | h | h | h | h <;> rw [h] <;> (unfold Tok; decide)
theorem tok_dcb (n : Int) : Tok (dcB n) := tok_dec _
theorem tok_cons {c : UInt8} {l : List UInt8} (hc : c ≠ 32 ∧ c ≠ 10) (h : Tok l) : Tok (c :: l) := by
  unfold Tok at *
  simp only [List.mem_cons, not_or]
  exact ⟨⟨hc.1.symm, h.1⟩, hc.2.symm, h.2⟩
theorem tok_prt {d : Del} (hd : OkD d) (hh : 0 ≤ d.how) : Tok (prtD d) := by
  unfold prtD
  refine tok_cat ?_ (tok_cat ?_ (tok_cat ?_ (tok_cat ?_ (tok_cat ?_ (tok_cat ?_ (tok_cat ?_ ?_))))))
  · unfold tyL; split <;> (try split) <;> (unfold Tok; decide)
  · unfold srcL
    by_cases h1 : d.src = 2
    · rw [if_pos h1]; unfold Tok; decide
    rw [if_neg h1]
    by_cases h2 : d.src = 3
    · rw [if_pos h2]; unfold Tok; decide
    rw [if_neg h2]
    split <;> split <;> (unfold Tok; decide)
  · unfold runL; split
    · exact tok_dg hd.runs.1 (by have := hd.runs.2; omega)
    · exact tok_nil
  · unfold bdL; split <;> (try split) <;> (unfold Tok; decide)
  · unfold shL; split
    · exact tok_cons (by decide) (tok_dg hd.short.1 (by have := hd.short.2; omega))
    · exact tok_nil
  · unfold crL; split <;> (unfold Tok; decide)
  · unfold wkL; split
    · exact tok_nil
    · refine tok_cons (by decide) (tok_cons ?_ (tok_cat (tok_dg hd.vic.1 (by have := hd.vic.2; omega)) ?_))
      · have := hd.how
        rcases (by omega : d.how = 0 ∨ d.how = 1 ∨ d.how = 2 ∨ d.how = 3 ∨ d.how = 4 ∨ d.how = 5 ∨ d.how = 6 ∨ d.how = 7 ∨ d.how = 8 ∨ d.how = 9 ∨ d.how = 10) with h | h | h | h | h | h | h | h | h | h | h <;> rw [h] <;> decide
      · unfold fdL; split
        · refine tok_cons (by decide) (tok_cat (tok_dcb _) (tok_cat ?_ (tok_cat ?_ ?_)))
          · split
            · exact tok_cons (by decide) (tok_dcb _)
            · exact tok_nil
          · split <;> (unfold Tok; decide)
          · unfold Tok; decide
        · exact tok_nil
  · unfold secL; split
    · exact tok_cons (by decide) (tok_dg hd.sec.1 (by have := hd.sec.2; omega))
    · exact tok_nil
/-! Reading a line. The program's way. -/
def takeF (k : Int) (e : Ev) (c : UInt8) (w : List UInt8) : Ev :=
  if c = 115 then { e with side := (numP w 0 1000000).1 } else if c = 112 then { e with player := (numP w 0 1000000).1 } else if c = 111 then { e with other := (numP w 0 1000000).1 }
  else if c = 114 then { e with runs := (numP w 0 1000000).1 } else if c = 118 then { e with overs := (numP w 0 1000000).1 } else if c = 98 then { e with ball := (parD (guessP w) w).1 } else { e with yes := decide (w = yesL k) }
def takeAll (k : Int) : Ev → List UInt8 → List (List UInt8) → Ev
  | e, c :: cs, w :: ws => takeAll k (takeF k e c w) cs ws
  | e, _, _ => e
def kindW (w : List UInt8) : Option Nat := wordT.idxOf? w
def guessE (ws : List (List UInt8)) : Option Ev := match ws with
  | [] => none
  | w :: r =>
    match kindW (if w = sTO then sEN else w) with
    | none => none
    | some i => if r.length ≠ (fldsL ((i : Int) + 1)).length then none else some (takeAll ((i : Int) + 1) ⟨(i : Int) + 1, 0, 0, 0, decide (w = sTO), 0, 0, zeroD⟩ (fldsL ((i : Int) + 1)) r)
/-- What Parse answers. -/
def parE (g : Option Ev) (s : List UInt8) : Ev × Int := match g with
  | none => (zeroE, 4)
  | some e => if chkE e = 0 ∧ txtE e = s then (e, 0) else (zeroE, 4)
/-! The reference's way. -/
def numF (f : List (List UInt8)) (i : Nat) : Int := match f[i]? with
  | none => -1
  | some w => if (numP w 0 1000000).2 = 0 then (numP w 0 1000000).1 else -1
def wordF (f : List (List UInt8)) (i : Nat) : List UInt8 := f.getD i []
def guessF (f : List (List UInt8)) : Ev :=
  let w := wordF f 0
  if w = wordL 1 then { zeroE with kind := 1, side := numF f 1, yes := decide (wordF f 2 = yesL 1) }
  else if w = wordL 2 then { zeroE with kind := 2, player := numF f 1, other := numF f 2 }
  else if w = wordL 3 then { zeroE with kind := 3, player := numF f 1 }
  else if w = wordL 4 then { zeroE with kind := 4, ball := (parD (guessR (wordF f 1)) (wordF f 1)).1 }
  else if w = wordL 5 ∨ w = sTO then { zeroE with kind := 5, player := numF f 1, yes := decide (w = sTO) }
  else if w = wordL 6 then { zeroE with kind := 6, player := numF f 1, yes := decide (wordF f 2 = yesL 6) }
  else if w = wordL 7 then { zeroE with kind := 7, runs := numF f 1 }
  else if w = wordL 8 then { zeroE with kind := 8, player := numF f 1 }
  else if w = wordL 9 then { zeroE with kind := 9, player := numF f 1, yes := decide (wordF f 2 = yesL 9) }
  else if w = wordL 10 then { zeroE with kind := 10 }
  else if w = wordL 11 then { zeroE with kind := 11, side := numF f 1 }
  else if w = wordL 12 then { zeroE with kind := 12, side := numF f 1, yes := decide (wordF f 2 = yesL 12) }
  else if w = wordL 13 then { zeroE with kind := 13, side := numF f 1, runs := numF f 2 }
  else if w = wordL 14 then { zeroE with kind := 14, side := numF f 1, yes := decide (wordF f 2 = yesL 14) }
  else if w = wordL 15 then { zeroE with kind := 15, runs := numF f 1, overs := numF f 2 }
  else if w = wordL 16 then { zeroE with kind := 16 }
  else zeroE
def fieldsS (s : List UInt8) : List (List UInt8) := if s = [] then [] else splitC 32 s
end Go.Proofs.YtdbiihfoafoljaaGreatDoor
