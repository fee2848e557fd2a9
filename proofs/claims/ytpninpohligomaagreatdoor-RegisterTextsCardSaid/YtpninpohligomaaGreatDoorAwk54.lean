/-
  Chapter 54: the example of the chapter.
-/
import Derived.Test.YtpninpohligomaaGreatDoorCk54
set_option linter.unusedSimpArgs false
set_option linter.unusedVariables false
namespace Go.Proofs.YtpninpohligomaaGreatDoor
open Go.RowKit
set_option maxRecDepth 100000
set_option maxHeartbeats 1000000
theorem rd_blk {α : Type} {enc : α → List Value} {size : Nat} (hlen : ∀ z, (enc z).length = size) {w : World} {g : Nat} {e : TypeId} {l : List α} (h : Blk w g e (l.flatMap enc)) : Rd enc size w w.heap.size (some ⟨g, 0, none⟩) l :=
  fun k x hx => ⟨g, 0, rfl, h.lt, fun j u hu => by rw [Nat.zero_add, h.cell]; exact flat_at hlen l k x hx j u hu⟩
def exW : List Wn := [⟨100, 110⟩]
def exL : List Tr := [⟨⟨#[65, 78, 78]⟩, ⟨#[82, 69, 68, 83]⟩, 5⟩, ⟨⟨#[65, 78, 78]⟩, ⟨#[66, 76, 85, 69, 83]⟩, 103⟩, ⟨⟨#[66, 79, 66]⟩, ⟨#[82, 69, 68, 83]⟩, 103⟩]
def exM : List Tr := [⟨⟨#[65, 78, 78]⟩, ⟨#[82, 69, 68, 83]⟩, 5⟩, ⟨⟨#[65, 78, 78]⟩, ⟨#[66, 76, 85, 69, 83]⟩, 99⟩]
theorem ex1 : ckT exW exL = (-1, 0) := by decide +kernel
theorem ex2 : ckT exW exM = (1, 15) := by decide +kernel
theorem ex3 : teamB exL ⟨#[65, 78, 78]⟩ 102 = ⟨#[82, 69, 68, 83]⟩ := by decide +kernel
theorem ex4 : eligB exL ⟨#[65, 78, 78]⟩ ⟨#[66, 76, 85, 69, 83]⟩ 109 = false := by decide +kernel
theorem ex5 : eligB exL ⟨#[65, 78, 78]⟩ ⟨#[66, 76, 85, 69, 83]⟩ 110 = true := by decide +kernel
theorem ex6 : eligB exL ⟨#[65, 78, 78]⟩ ⟨#[82, 69, 68, 83]⟩ 5 = true := by decide +kernel
theorem szL : ∀ (k : Nat) z, exL[k]? = some z → z.p.size ≤ 9223372036854775807 ∧ z.t.size ≤ 9223372036854775807 := by
  intro k z h
  match k, h with
  | 0, h => injection h with h; subst h; decide
  | 1, h => injection h with h; subst h; decide
  | 2, h => injection h with h; subst h; decide
  | n + 3, h => simp [exL] at h
theorem szM : ∀ (k : Nat) z, exM[k]? = some z → z.p.size ≤ 9223372036854775807 ∧ z.t.size ≤ 9223372036854775807 := by
  intro k z h
  match k, h with
  | 0, h => injection h with h; subst h; decide
  | 1, h => injection h with h; subst h; decide
  | n + 2, h => simp [exM] at h
theorem awake_any (w : World) : Calls Tryz.prog 14 #[] w fun e w' => e = .returned (.bool true) ∧ Below w.heap.size w w' := by
  go_enter Tryz.func14, Tryz.ntmps14
  go_wp2_with fail
  obtain ⟨hW, hL, hb⟩ := entry2 w (exW.flatMap wnE) (exL.flatMap trE) 48 51
  have eW : (exW.flatMap wnE).toArray = #[.int .i64 100, .int .i64 110] := rfl
  have eL : (exL.flatMap trE).toArray = #[.string ⟨#[65, 78, 78]⟩, .string ⟨#[82, 69, 68, 83]⟩, .int .i64 5, .string ⟨#[65, 78, 78]⟩, .string ⟨#[66, 76, 85, 69, 83]⟩, .int .i64 103, .string ⟨#[66, 79, 66]⟩, .string ⟨#[82, 69, 68, 83]⟩, .int .i64 103] := rfl
  rw [eW, eL] at hW hL hb
  generalize (w.alloc (Obj.cells #[.int .i64 100, .int .i64 110] 48)).alloc (Obj.cells #[.string ⟨#[65, 78, 78]⟩, .string ⟨#[82, 69, 68, 83]⟩, .int .i64 5, .string ⟨#[65, 78, 78]⟩, .string ⟨#[66, 76, 85, 69, 83]⟩, .int .i64 103, .string ⟨#[66, 79, 66]⟩, .string ⟨#[82, 69, 68, 83]⟩, .int .i64 103] 51) = w2 at hW hL hb ⊢
  have HW := Lib.hid (rd_blk wnE_len hW)
  have HL := Lib.hid (rd_blk trE_len hL)
  have HB := Lib.hid hb
  have HC := Lib.hid hL
  clear hW hL hb eW eL
  refine (ck_p _ _ exW _ 3 exL (-1) 0 w2 (by decide) (by decide) HW.out HL.out szL ex1).mono ?_
  rintro e w3 ⟨rfl, hb3⟩
  have HW3 := Lib.hid (HW.out.to hb3)
  have HL3 := Lib.hid (HL.out.to hb3)
  have HB3 := Lib.hid (cur_step1 HB.out hb3)
  have HC3 := Lib.hid (HC.out.to hb3)
  clear HW HL HB HC hb3
  go_wp2_with fail
  refine (team_p _ 3 exL _ 102 _ w3 (by decide) HL3.out ex3).mono ?_
  rintro e w4 ⟨rfl, hb4⟩
  have HW4 := Lib.hid (HW3.out.to hb4)
  have HL4 := Lib.hid (HL3.out.to hb4)
  have HB4 := Lib.hid (cur_step1 HB3.out hb4)
  have HC4 := Lib.hid (HC3.out.to hb4)
  clear HW3 HL3 HB3 HC3 hb4
  go_wp2_with fail
  refine (elig_p _ 3 exL _ _ 109 _ w4 (by decide) HL4.out ex4).mono ?_
  rintro e w5 ⟨rfl, hb5⟩
  have HW5 := Lib.hid (HW4.out.to hb5)
  have HL5 := Lib.hid (HL4.out.to hb5)
  have HB5 := Lib.hid (cur_step1 HB4.out hb5)
  have HC5 := Lib.hid (HC4.out.to hb5)
  clear HW4 HL4 HB4 HC4 hb5
  go_wp2_with fail
  refine (elig_p _ 3 exL _ _ 110 _ w5 (by decide) HL5.out ex5).mono ?_
  rintro e w6 ⟨rfl, hb6⟩
  have HW6 := Lib.hid (HW5.out.to hb6)
  have HL6 := Lib.hid (HL5.out.to hb6)
  have HB6 := Lib.hid (cur_step1 HB5.out hb6)
  have HC6 := Lib.hid (HC5.out.to hb6)
  clear HW5 HL5 HB5 HC5 hb6
  go_wp2_with fail
  refine (elig_p _ 3 exL _ _ 5 _ w6 (by decide) HL6.out ex6).mono ?_
  rintro e w7 ⟨rfl, hb7⟩
  have HW7 := Lib.hid (HW6.out.to hb7)
  have HL7 := Lib.hid (HL6.out.to hb7)
  have HB7 := Lib.hid (cur_step1 HB6.out hb7)
  have HC7 := Lib.hid (HC6.out.to hb7)
  clear HW6 HL6 HB6 HC6 hb7
  have c0 : w7.cell? ⟨w.heap.size + 1, 0, none⟩ = some (.string ⟨#[65, 78, 78]⟩) := HC7.out.cell 0
  have c1 : w7.cell? ⟨w.heap.size + 1, 1, none⟩ = some (.string ⟨#[82, 69, 68, 83]⟩) := HC7.out.cell 1
  have c2 : w7.cell? ⟨w.heap.size + 1, 2, none⟩ = some (.int .i64 5) := HC7.out.cell 2
  go_wp2_with fail
  have hb8 := cur_new w7 (.cells #[.string ⟨#[65, 78, 78]⟩, .string ⟨#[82, 69, 68, 83]⟩, .int .i64 5, .string ⟨#[65, 78, 78]⟩, .string ⟨#[66, 76, 85, 69, 83]⟩, .int .i64 99] 51)
  have hM := Blk.new w7 51 (exM.flatMap trE)
  rw [show (exM.flatMap trE).toArray = #[.string ⟨#[65, 78, 78]⟩, .string ⟨#[82, 69, 68, 83]⟩, .int .i64 5, .string ⟨#[65, 78, 78]⟩, .string ⟨#[66, 76, 85, 69, 83]⟩, .int .i64 99] from rfl] at hM
  generalize w7.alloc (Obj.cells #[.string ⟨#[65, 78, 78]⟩, .string ⟨#[82, 69, 68, 83]⟩, .int .i64 5, .string ⟨#[65, 78, 78]⟩, .string ⟨#[66, 76, 85, 69, 83]⟩, .int .i64 99] 51) = w8 at hb8 hM ⊢
  refine (ck_p _ _ exW _ 2 exM 1 15 w8 (by decide) (by decide) (HW7.out.to hb8) (rd_blk trE_len hM) szM ex2).mono ?_
  rintro e w9 ⟨rfl, hb9⟩
  go_wp2_with fail
  go_ret
  exact ⟨rfl, cur_step1 (cur_step1 HB7.out hb8) hb9⟩
end Go.Proofs.YtpninpohligomaaGreatDoor
