/-
  Chapter 49: the chapter's examples: awake answers true.
-/
import Derived.Test.YthoocjcbpjdjhaaRoundsR49
import Derived.Test.YthoocjcbpjdjhaaEqual49
import Derived.Test.YthoocjcbpjdjhaaPlaceR49
namespace Go.Proofs.Ythoocjcbpjdjhaa
open Go.RowKit

def ex6 : List Fx := [⟨0, 0, 3⟩, ⟨0, 1, 2⟩, ⟨1, 3, 1⟩, ⟨1, 2, 0⟩, ⟨2, 2, 3⟩, ⟨2, 0, 1⟩]
def ex6p : List Pf := [⟨⟨0, 0, 3⟩, 100, 0⟩, ⟨⟨0, 1, 2⟩, 101, 0⟩, ⟨⟨1, 3, 1⟩, 103, 3⟩, ⟨⟨1, 2, 0⟩, 103, 2⟩, ⟨⟨2, 2, 3⟩, 105, 2⟩, ⟨⟨2, 0, 1⟩, 105, 0⟩]
theorem ex6_rounds : roundsL 4 false = ex6 := by decide
theorem ex6_place : placeAll ex6 100 1 [0, 0, 2, 3] = (ex6p, 0) := by decide

/-- A new block of elements reads as their list. -/
theorem rd_block {α : Type} {enc : α → List Value} {size : Nat} {w : World} {b : Nat} {t : TypeId} {cs : Array Value} {l : List α} (hs : ∀ x, (enc x).length = size) (hb : w.heap[b]? = some (.cells cs t (0, 0))) (he : cs.toList = l.flatMap enc) : Rd enc size w w.heap.size (some ⟨b, 0, none⟩) l := by
  intro k x hx
  refine ⟨b, 0, rfl, (Array.getElem?_eq_some_iff.1 hb).1, fun j u hu => ?_⟩
  rw [cell_of_row w b _ _ _ _ hb]
  have := flat_at hs l k x hx j u hu
  rw [← he] at this
  simpa using this

set_option maxRecDepth 100000 in
set_option maxHeartbeats 1000000 in
theorem awake_any (w : World) : Calls Try.prog 8 #[] w fun e w' => e = .returned (.bool true) ∧ Below w.heap.size w w' := by
  go_enter Try.func8, Try.ntmps8
  go_wp2_with fail
  refine (rounds_good 4 false w (by decide) (by decide)).mono ?_
  rintro e w1 ⟨v, rfl, hown, hb⟩
  rw [ex6_rounds] at hown
  obtain ⟨A, c, rfl, hrd, hbase⟩ := hown.rd fxE_len
  have HB := Lib.hid hb
  have HR := Lib.hid hrd
  clear hown hb hrd hbase
  go_wp2_with fail
  have hr2 : Rd fxE 3 _ _ _ ex6 := rd_block (b := w1.heap.size) fxE_len (heap_alloc_new w1 (.cells #[.int .i64 0, .int .i64 0, .int .i64 3, .int .i64 0, .int .i64 1, .int .i64 2, .int .i64 1, .int .i64 3, .int .i64 1, .int .i64 1, .int .i64 2, .int .i64 0, .int .i64 2, .int .i64 2, .int .i64 3, .int .i64 2, .int .i64 0, .int .i64 1] 37)) rfl
  refine (equal_any A _ c 6 ex6 ex6 _ (by decide) (by decide) (HR.out.to (cur_new w1 _)) hr2).mono ?_
  rintro e w2 ⟨rfl, hb2⟩
  have HB2 := Lib.hid (cur_step0 hb2)
  clear hr2 hb2
  go_wp2_with fail
  have hg : Rd inE 1 _ _ _ [0, 0, 2, 3] := rd_block (b := w2.heap.size) inE_len (heap_alloc_new w2 (.cells #[.int .i64 0, .int .i64 0, .int .i64 2, .int .i64 3] 3)) rfl
  refine (place_f A _ c 4 ex6 100 1 [0, 0, 2, 3] _ (by decide) (by decide) ((HR.out.to HB2.out).to (cur_new w2 _)) hg).mono ?_
  rintro e w3 ⟨v, rfl, hown, hb3⟩
  rw [ex6_place] at hown ⊢
  simp only [] at hown ⊢
  obtain ⟨A3, c3, rfl, hrp, hbase⟩ := hown.rd pfE_len
  have HB3 := Lib.hid (HB.out.trans ((cur_step1 HB2.out (cur_step0 hb3)).mono HB.out.size))
  obtain ⟨pb, po, rfl, _, d00, d01, d02, d03, d04⟩ := rdPf (k := 0) (x := ⟨⟨0, 0, 3⟩, 100, 0⟩) hrp (Below.refl _ _) rfl
  obtain ⟨pb1, po1, E1, _, d10, d11, d12, d13, d14⟩ := rdPf (k := 1) (x := ⟨⟨0, 1, 2⟩, 101, 0⟩) hrp (Below.refl _ _) rfl
  injection E1 with E1
  injection E1 with e1 e2 _
  subst e1 e2
  obtain ⟨pb2, po2, E2, _, d20, d21, d22, d23, d24⟩ := rdPf (k := 2) (x := ⟨⟨1, 3, 1⟩, 103, 3⟩) hrp (Below.refl _ _) rfl
  injection E2 with E2
  injection E2 with e1 e2 _
  subst e1 e2
  obtain ⟨pb3, po3, E3, _, d30, d31, d32, d33, d34⟩ := rdPf (k := 3) (x := ⟨⟨1, 2, 0⟩, 103, 2⟩) hrp (Below.refl _ _) rfl
  injection E3 with E3
  injection E3 with e1 e2 _
  subst e1 e2
  obtain ⟨pb4, po4, E4, _, d40, d41, d42, d43, d44⟩ := rdPf (k := 4) (x := ⟨⟨2, 2, 3⟩, 105, 2⟩) hrp (Below.refl _ _) rfl
  injection E4 with E4
  injection E4 with e1 e2 _
  subst e1 e2
  obtain ⟨pb5, po5, E5, _, d50, d51, d52, d53, d54⟩ := rdPf (k := 5) (x := ⟨⟨2, 0, 1⟩, 105, 0⟩) hrp (Below.refl _ _) rfl
  injection E5 with E5
  injection E5 with e1 e2 _
  subst e1 e2
  have hlen : ex6p.length = 6 := rfl
  clear hown hbase hb3 hg hrp
  clear d00 d01 d02 d04
  clear d10 d11 d12 d14
  clear d20 d21 d22 d24
  clear d30 d31 d32 d34
  clear d40 d41 d42 d44
  clear d50 d51 d52 d54
  simp only [Nat.reduceMul, Nat.zero_mul, Nat.add_zero] at d03 d13 d23 d33 d43 d53
  rw [hlen]
  go_wp2
  go_ret
  exact ⟨rfl, HB3.out⟩
end Go.Proofs.Ythoocjcbpjdjhaa
