/-
  Chapter 12: dismiss.
-/
import Derived.Test.YtjlmlafiojpjmaaSide12
namespace Go.Proofs.Ytjlmlafiojpjmaa
open Go.RowKit

structure Dis (w w' : World) (g : Nat) (v : Value) : Prop where
  keep : ∀ x, x < w.heap.size → x ≠ g → v.ownBlock ≠ some x → w'.heap[x]? = w.heap[x]?
  below : ∀ (B : Nat) (a : World), Below B a w → B ≤ g → (∀ k, v.ownBlock = some k → B ≤ k) → Below B a w'

set_option maxRecDepth 100000 in
set_option maxHeartbeats 1000000 in
theorem dismiss_f (r : Rst) (wk st ot p : Int) (A : Option Addr) (n c g base : Nat) (xs : List Value) (w : World) (hn : n ≤ 1000000) (hwk : 0 ≤ wk ∧ wk ≤ 1000000) (hg : Blk w g 32 (innL r wk st ot (.slice A n c)))
    (ho : w.ownsRow base 50 1 (.slice A n c) n xs) (hne : ∀ k, (Value.slice A n c).ownBlock = some k → k ≠ g) (hp : 1 ≤ p ∧ p ≤ n) :
    Calls Try.prog 24 #[.pointer (some ⟨g, 0, none⟩), .int .i64 p] w fun e w' => e = .returned (.tuple #[]) ∧ Blk w' g 32 (innL r (wk + 1) st ot (.slice A n c)) ∧ w'.ownsRow base 50 1 (.slice A n c) n (xs.set (p.toNat - 1) (.int .u8 2)) ∧ Dis w w' g (.slice A n c) := by
  obtain ⟨b, rfl⟩ : ∃ b, A = some ⟨b, 0, none⟩ := by
    rcases ho.2 with ⟨h, hn0⟩ | ⟨g', cap, cur, h, _⟩
    · omega
    · injection h with h _ _
      exact ⟨g', h⟩
  have hc := own_cap ho
  obtain ⟨P, rfl⟩ : ∃ P : Nat, p = P + 1 := ⟨p.toNat - 1, by omega⟩
  have hP : P < n := by omega
  have hbg : b ≠ g := hne b rfl
  have hgl := hg.lt
  have hbl := (own_range ho b rfl).2
  have c14 : w.cell? ⟨g, 14, none⟩ = some (.slice (some ⟨b, 0, none⟩) n c) := hg.cell 14
  have c4 : w.cell? ⟨g, 4, none⟩ = some (.int .i64 wk) := hg.cell 4
  have cp := ho.cellAt P (by omega)
  obtain ⟨u, hu⟩ : ∃ u, xs[P]? = some u := ⟨_, List.getElem?_eq_getElem (by have := ho.1; omega)⟩
  rw [hu] at cp
  have fw1 := hg.frozen 4
  have fw2 := ho.frozenAt P
  have HG := Lib.hid hg
  have HO := Lib.hid ho
  have HNE := Lib.hid hne
  clear hg ho hne hu
  go_enter Try.func24, Try.ntmps24
  go_wp2_with (first
    | (refine wpList_load_row rfl 32 _ rfl g (by rfl) 32 (innL r wk st ot (.slice (some ⟨b, 0, none⟩) n c)).toArray (0, 0) _ HG.out Try.underlying32 rfl inn_info ?_)
    | (go_at_call 23; refine (known_f r wk st ot (P + 1) (some ⟨b, 0, none⟩) n c true _ hn (by simp; omega)).mono ?_; rintro e w1 ⟨rfl, hb1⟩; obtain ⟨cc, cf⟩ := bcell hb1; have f14 := (cf g 4 hgl).trans (HG.out.frozen 4); have fp := (cf b P hbl).trans (HO.out.frozenAt P); have f15 := ((HG.out.to hb1).other (Ne.symm hbg) P (.int .u8 2)).frozen 4; have c15 : (w1.setCell ⟨b, P, none⟩ (.int .u8 2)).cell? ⟨g, 4, none⟩ = some (.int .i64 wk) := ((HG.out.to hb1).other (Ne.symm hbg) P (.int .u8 2)).cell 4))
  go_end0
  refine ⟨rfl, ?_, ?_, ?_, ?_⟩
  · exact ((HG.out.to hb1).other (Ne.symm hbg) P _).set 4 (.int .i64 (wk + 1))
  · have h1 := own_below HO.out hb1 (Nat.le_refl _)
    have h2 := (h1.stored P (.int .u8 2)).1
    have h3 := own_other h2 (fun k hk => HNE.out k hk) 4 (.int .i64 (wk + 1))
    rw [show ((P : Int) + 1).toNat - 1 = P by omega]
    exact h3
  · intro x hx h1 h2
    rw [heap_setCell_other _ ⟨g, 4, none⟩ x _ h1, heap_setCell_other _ ⟨b, P, none⟩ x _ (fun e => h2 (by rw [e]; rfl))]
    exact hb1.block x hx
  · intro B a h h1 h2
    exact below_set (below_set (h.trans (hb1.mono (by omega))) (h2 b rfl) _ _) h1 _ _
end Go.Proofs.Ytjlmlafiojpjmaa
