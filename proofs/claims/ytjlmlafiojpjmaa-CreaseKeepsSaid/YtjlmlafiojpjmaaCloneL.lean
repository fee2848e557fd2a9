/-
  Chapter 12: slices.Clone at the lists of an innings; a slice that reads as a list of cells.
-/
import Derived.Test.YtjlmlafiojpjmaaApp
import Derived.Test.YtjlmlafiojpjmaaRows
import Derived.Shelf.SlicesE.Clone
set_option linter.unusedSimpArgs false
set_option linter.unusedVariables false
namespace Go.Proofs.Ytjlmlafiojpjmaa
open Go.RowKit

/-- The value v is a slice that reads as the cells xs. -/
def Lst (w : World) (v : Value) (xs : List Value) : Prop :=
  (v = .slice none 0 0 ∧ xs = []) ∨ (∃ b off c, v = .slice (some ⟨b, off, none⟩) xs.length c ∧ xs.length ≤ c ∧ b < w.heap.size ∧ ∀ j u, xs[j]? = some u → w.cell? ⟨b, off + j, none⟩ = some u) ∨ ∃ a c, v = .slice (some a) 0 c ∧ xs = []
theorem Lst.to {w w' : World} {v : Value} {xs : List Value} (h : Lst w v xs) (hb : Below w.heap.size w w') : Lst w' v xs := by
  rcases h with h | ⟨b, off, c, hv, hc, hlt, hx⟩ | h
  · exact .inl h
  · exact .inr (.inl ⟨b, off, c, hv, hc, Nat.lt_of_lt_of_le hlt hb.size, fun j u hu => (hb.cell (p := ⟨b, off + j, none⟩) hlt).trans (hx j u hu)⟩)
  · exact .inr (.inr h)
theorem Lst.own {w : World} {base e : Nat} {v : Value} {xs : List Value} (h : w.ownsRow base e 1 v xs.length xs) : Lst w v xs := by
  rcases h.2 with ⟨hv, hn⟩ | ⟨g, cap, cur, hv, hb, hg, hnc, _, _, htake⟩
  · exact .inl ⟨hv, List.eq_nil_of_length_eq_zero hn⟩
  · refine .inr (.inl ⟨g, 0, cap, hv, hnc, (Array.getElem?_eq_some_iff.1 hg).1, fun j u hu => ?_⟩)
    have h2 := h.cells (g := g) (by rw [hv]; rfl) j u hu
    simpa [Addr.add_lit] using h2

set_option maxRecDepth 100000 in
set_option maxHeartbeats 1000000 in
theorem clone_st (v : Value) (xs : List Value) (w : World) (hl : xs.length ≤ 1000000) (hr : Lst w v xs) (h1 : ∀ u ∈ xs, u.oneCell' = true) :
    Calls Try.prog 15 #[v] w fun e w' => ∃ v', e = .returned v' ∧ w'.ownsRow w.heap.size 50 1 v' xs.length xs ∧ Below w.heap.size w w' := by
  have q22 : ∀ (w : World) (a : Option Addr) (n c n' c' : Nat), (binOp .eql 26 (.slice a n c) (.slice none n' c')).run Try.prog w = .ok (.bool a.isNone) w := fun w a n c n' c' => Lib.run_eql_slice_nil w _ _ a n c n' c' Try.underlying26
  rcases hr with ⟨rfl, rfl⟩ | ⟨b, off, c, rfl, hc, hlt, hx⟩ | ⟨a, c, rfl, rfl⟩
  · go_enter Try.func15, Try.ntmps15
    go_wp2
    go_ret
    exact ⟨_, rfl, ⟨rfl, .inl ⟨rfl, rfl⟩⟩, Below.refl _ _⟩
  · have A := Lib.hid hx
    have H1 := Lib.hid h1
    clear hx h1
    obtain ⟨i0, hi, hz0, hz1, hz2⟩ := info_parts (P := Try.prog) (e := 50) (z := (.int .u8 0)) (size := 1) (bytes := 1) (by kernel_rfl)
    go_enter Try.func15, Try.ntmps15
    go_wp2_with (refine wpList_append_own _ rfl _ _ 26 rfl w.heap.size 50 i0 (.int .u8 0) 1 1 Try.underlying26 hi hz0 hz1 hz2 rfl (by decide) _ _ _ rfl (World.ownsRow_made w #[] 0 (Nat.le_refl _) (Nat.zero_le _) (by simp)) ⟨b, off, none⟩ xs.length c xs rfl ?qc1 ?qc2 ?qc3 ?qc4 ?qc5 ?qc6 ?_)
    case qc1 => omega
    case qc2 =>
      intro j u hj
      rw [Addr.add_lit]
      exact ((cur_new w _).cell (p := ⟨b, off + j, none⟩) hlt).trans (A.out j u hj)
    case qc3 => exact H1.out
    case qc4 => unfold maxLen; omega
    case qc5 => omega
    case qc6 => simp
    intro v' w1 hown hgrow hnil
    go_wp2
    go_ret
    refine ⟨v', rfl, by simpa using hown, ?_⟩
    exact ((Below.refl _ w).alloc (Nat.le_refl _) _).grown hgrow (by simp) (by intro k hk; simp [Value.ownBlock] at hk; omega)
  · clear h1
    obtain ⟨i0, hi, hz0, hz1, hz2⟩ := info_parts (P := Try.prog) (e := 50) (z := (.int .u8 0)) (size := 1) (bytes := 1) (by kernel_rfl)
    go_enter Try.func15, Try.ntmps15
    go_wp2_with (refine wpList_append_own _ rfl _ _ 26 rfl w.heap.size 50 i0 (.int .u8 0) 1 1 Try.underlying26 hi hz0 hz1 hz2 rfl (by decide) _ _ _ rfl (World.ownsRow_made w #[] 0 (Nat.le_refl _) (Nat.zero_le _) (by simp)) a 0 c [] rfl ?qc1 ?qc2 ?qc3 ?qc4 ?qc5 ?qc6 ?_)
    case qc1 => simp
    case qc2 => intro j u hj; simp at hj
    case qc3 => intro u hu; cases hu
    case qc4 => decide
    case qc5 => decide
    case qc6 => simp
    intro v' w1 hown hgrow hnil
    go_wp2
    go_ret
    refine ⟨v', rfl, by simpa using hown, ?_⟩
    exact ((Below.refl _ w).alloc (Nat.le_refl _) _).grown hgrow (by simp) (by intro k hk; simp [Value.ownBlock] at hk; omega)
set_option maxRecDepth 100000 in
set_option maxHeartbeats 1000000 in
theorem clone_in (v : Value) (xs : List Value) (w : World) (hl : xs.length ≤ 1000000) (hr : Lst w v xs) (h1 : ∀ u ∈ xs, u.oneCell' = true) :
    Calls Try.prog 31 #[v] w fun e w' => ∃ v', e = .returned v' ∧ w'.ownsRow w.heap.size 3 1 v' xs.length xs ∧ Below w.heap.size w w' := by
  have q22 : ∀ (w : World) (a : Option Addr) (n c n' c' : Nat), (binOp .eql 27 (.slice a n c) (.slice none n' c')).run Try.prog w = .ok (.bool a.isNone) w := fun w a n c n' c' => Lib.run_eql_slice_nil w _ _ a n c n' c' Try.underlying27
  rcases hr with ⟨rfl, rfl⟩ | ⟨b, off, c, rfl, hc, hlt, hx⟩ | ⟨a, c, rfl, rfl⟩
  · go_enter Try.func31, Try.ntmps31
    go_wp2
    go_ret
    exact ⟨_, rfl, ⟨rfl, .inl ⟨rfl, rfl⟩⟩, Below.refl _ _⟩
  · have A := Lib.hid hx
    have H1 := Lib.hid h1
    clear hx h1
    obtain ⟨i0, hi, hz0, hz1, hz2⟩ := info_parts (P := Try.prog) (e := 3) (z := (.int .i64 0)) (size := 1) (bytes := 8) (by kernel_rfl)
    go_enter Try.func31, Try.ntmps31
    go_wp2_with (refine wpList_append_own _ rfl _ _ 27 rfl w.heap.size 3 i0 (.int .i64 0) 1 8 Try.underlying27 hi hz0 hz1 hz2 rfl (by decide) _ _ _ rfl (World.ownsRow_made w #[] 0 (Nat.le_refl _) (Nat.zero_le _) (by simp)) ⟨b, off, none⟩ xs.length c xs rfl ?qc1 ?qc2 ?qc3 ?qc4 ?qc5 ?qc6 ?_)
    case qc1 => omega
    case qc2 =>
      intro j u hj
      rw [Addr.add_lit]
      exact ((cur_new w _).cell (p := ⟨b, off + j, none⟩) hlt).trans (A.out j u hj)
    case qc3 => exact H1.out
    case qc4 => unfold maxLen; omega
    case qc5 => omega
    case qc6 => simp
    intro v' w1 hown hgrow hnil
    go_wp2
    go_ret
    refine ⟨v', rfl, by simpa using hown, ?_⟩
    exact ((Below.refl _ w).alloc (Nat.le_refl _) _).grown hgrow (by simp) (by intro k hk; simp [Value.ownBlock] at hk; omega)
  · clear h1
    obtain ⟨i0, hi, hz0, hz1, hz2⟩ := info_parts (P := Try.prog) (e := 3) (z := (.int .i64 0)) (size := 1) (bytes := 8) (by kernel_rfl)
    go_enter Try.func31, Try.ntmps31
    go_wp2_with (refine wpList_append_own _ rfl _ _ 27 rfl w.heap.size 3 i0 (.int .i64 0) 1 8 Try.underlying27 hi hz0 hz1 hz2 rfl (by decide) _ _ _ rfl (World.ownsRow_made w #[] 0 (Nat.le_refl _) (Nat.zero_le _) (by simp)) a 0 c [] rfl ?qc1 ?qc2 ?qc3 ?qc4 ?qc5 ?qc6 ?_)
    case qc1 => simp
    case qc2 => intro j u hj; simp at hj
    case qc3 => intro u hu; cases hu
    case qc4 => decide
    case qc5 => decide
    case qc6 => simp
    intro v' w1 hown hgrow hnil
    go_wp2
    go_ret
    refine ⟨v', rfl, by simpa using hown, ?_⟩
    exact ((Below.refl _ w).alloc (Nat.le_refl _) _).grown hgrow (by simp) (by intro k hk; simp [Value.ownBlock] at hk; omega)
set_option maxRecDepth 100000 in
set_option maxHeartbeats 1000000 in
theorem clone_bo (v : Value) (xs : List Value) (w : World) (hl : xs.length ≤ 1000000) (hr : Lst w v xs) (h1 : ∀ u ∈ xs, u.oneCell' = true) :
    Calls Try.prog 32 #[v] w fun e w' => ∃ v', e = .returned v' ∧ w'.ownsRow w.heap.size 4 1 v' xs.length xs ∧ Below w.heap.size w w' := by
  have q22 : ∀ (w : World) (a : Option Addr) (n c n' c' : Nat), (binOp .eql 28 (.slice a n c) (.slice none n' c')).run Try.prog w = .ok (.bool a.isNone) w := fun w a n c n' c' => Lib.run_eql_slice_nil w _ _ a n c n' c' Try.underlying28
  rcases hr with ⟨rfl, rfl⟩ | ⟨b, off, c, rfl, hc, hlt, hx⟩ | ⟨a, c, rfl, rfl⟩
  · go_enter Try.func32, Try.ntmps32
    go_wp2
    go_ret
    exact ⟨_, rfl, ⟨rfl, .inl ⟨rfl, rfl⟩⟩, Below.refl _ _⟩
  · have A := Lib.hid hx
    have H1 := Lib.hid h1
    clear hx h1
    obtain ⟨i0, hi, hz0, hz1, hz2⟩ := info_parts (P := Try.prog) (e := 4) (z := (.bool false)) (size := 1) (bytes := 1) (by kernel_rfl)
    go_enter Try.func32, Try.ntmps32
    go_wp2_with (refine wpList_append_own _ rfl _ _ 28 rfl w.heap.size 4 i0 (.bool false) 1 1 Try.underlying28 hi hz0 hz1 hz2 rfl (by decide) _ _ _ rfl (World.ownsRow_made w #[] 0 (Nat.le_refl _) (Nat.zero_le _) (by simp)) ⟨b, off, none⟩ xs.length c xs rfl ?qc1 ?qc2 ?qc3 ?qc4 ?qc5 ?qc6 ?_)
    case qc1 => omega
    case qc2 =>
      intro j u hj
      rw [Addr.add_lit]
      exact ((cur_new w _).cell (p := ⟨b, off + j, none⟩) hlt).trans (A.out j u hj)
    case qc3 => exact H1.out
    case qc4 => unfold maxLen; omega
    case qc5 => omega
    case qc6 => simp
    intro v' w1 hown hgrow hnil
    go_wp2
    go_ret
    refine ⟨v', rfl, by simpa using hown, ?_⟩
    exact ((Below.refl _ w).alloc (Nat.le_refl _) _).grown hgrow (by simp) (by intro k hk; simp [Value.ownBlock] at hk; omega)
  · clear h1
    obtain ⟨i0, hi, hz0, hz1, hz2⟩ := info_parts (P := Try.prog) (e := 4) (z := (.bool false)) (size := 1) (bytes := 1) (by kernel_rfl)
    go_enter Try.func32, Try.ntmps32
    go_wp2_with (refine wpList_append_own _ rfl _ _ 28 rfl w.heap.size 4 i0 (.bool false) 1 1 Try.underlying28 hi hz0 hz1 hz2 rfl (by decide) _ _ _ rfl (World.ownsRow_made w #[] 0 (Nat.le_refl _) (Nat.zero_le _) (by simp)) a 0 c [] rfl ?qc1 ?qc2 ?qc3 ?qc4 ?qc5 ?qc6 ?_)
    case qc1 => simp
    case qc2 => intro j u hj; simp at hj
    case qc3 => intro u hu; cases hu
    case qc4 => decide
    case qc5 => decide
    case qc6 => simp
    intro v' w1 hown hgrow hnil
    go_wp2
    go_ret
    refine ⟨v', rfl, by simpa using hown, ?_⟩
    exact ((Below.refl _ w).alloc (Nat.le_refl _) _).grown hgrow (by simp) (by intro k hk; simp [Value.ownBlock] at hk; omega)
end Go.Proofs.Ytjlmlafiojpjmaa
