/-
  Chapter 55: a matching that grows match by match; newMatching.
-/
import Derived.Test.YtckbhdokfkabfaaLac55
set_option linter.unusedSimpArgs false
set_option linter.unusedVariables false
namespace Go.Proofs.Ytckbhdokfkabfaa
open Go.RowKit
set_option maxRecDepth 100000
set_option maxHeartbeats 8000000
structure MatP (B bX : Nat) (R : Option Addr) (rc : Nat) (N : Option Addr) (nc : Nat) (U : Option Addr) (uc nu : Nat) (rows : List Rw) (need : List Nat) (us : List Int) (w : World) : Prop where
  blk : Blk w bX 93 [.slice R rows.length rc, .slice N need.length nc, .slice U nu uc]
  ge : B ≤ bX
  outer : OwnL (rwE nu) 1 94 B w (.slice R rows.length rc) rows
  row : ∀ r ∈ rows, OwnL boE 1 4 B w (.slice r.a nu r.c) r.r ∧ r.r.length = nu
  hneed : OwnL nE 1 3 B w (.slice N need.length nc) need
  hused : OwnL iE 1 3 B w (.slice U nu uc) us
  nd : (bX :: (adB R ++ (adB N ++ (adB U ++ rwB rows)))).Nodup
  lu : us.length = nu
theorem MatP.mat {B bX : Nat} {R : Option Addr} {rc : Nat} {N : Option Addr} {nc : Nat} {U : Option Addr} {uc nu : Nat} {rows : List Rw} {need : List Nat} {us : List Int} {w : World} (h : MatP B bX R rc N nc U uc nu rows need us w) (he : need.length = rows.length) : MatS B ⟨bX, R, rc, N, nc, U, uc, rows.length, nu⟩ rows need us w := by
  have hb := h.blk
  have hn := h.hneed
  rw [he] at hb hn
  exact ⟨hb, h.ge, h.outer, h.row, hn, h.hused, h.nd, rfl, he, h.lu⟩
theorem MatP.to {B bX : Nat} {R : Option Addr} {rc : Nat} {N : Option Addr} {nc : Nat} {U : Option Addr} {uc nu : Nat} {rows : List Rw} {need : List Nat} {us : List Int} {w w' : World} (h : MatP B bX R rc N nc U uc nu rows need us w) (hb : Below w.heap.size w w') : MatP B bX R rc N nc U uc nu rows need us w' :=
  ⟨h.blk.to hb, h.ge, own_below h.outer hb (Nat.le_refl _), fun r hr => ⟨own_below (h.row r hr).1 hb (Nat.le_refl _), (h.row r hr).2⟩, own_below h.hneed hb (Nat.le_refl _), own_below h.hused hb (Nat.le_refl _), h.nd, h.lu⟩
theorem MatP.inB {B bX : Nat} {R : Option Addr} {rc : Nat} {N : Option Addr} {nc : Nat} {U : Option Addr} {uc nu : Nat} {rows : List Rw} {need : List Nat} {us : List Int} {w : World} (h : MatP B bX R rc N nc U uc nu rows need us w) : ∀ b ∈ (bX :: (adB R ++ (adB N ++ (adB U ++ rwB rows)))), B ≤ b ∧ b < w.heap.size := by
  intro b hb
  rcases List.mem_cons.1 hb with e | e
  · subst e; exact ⟨h.ge, h.blk.lt⟩
  · rcases List.mem_append.1 e with e | e
    · exact own_in h.outer b e
    · rcases List.mem_append.1 e with e | e
      · exact own_in h.hneed b e
      · rcases List.mem_append.1 e with e | e
        · exact own_in h.hused b e
        · obtain ⟨r, hr, hb2⟩ := List.mem_flatMap.1 e
          exact own_in (h.row r hr).1 b hb2
theorem adB_nodup (A : Option Addr) : (adB A).Nodup := by cases A <;> simp [adB]
theorem rwB_snoc (rows : List Rw) (r : Rw) : rwB (rows ++ [r]) = rwB rows ++ adB r.a := by unfold rwB; simp
/-- One more row. -/
theorem MatP.addR {B bX : Nat} {R : Option Addr} {rc : Nat} {N : Option Addr} {nc : Nat} {U : Option Addr} {uc nu : Nat} {rows : List Rw} {need : List Nat} {us : List Int} {w w1 w2 : World} {r : Rw} {g cap : Nat} (h : MatP B bX R rc N nc U uc nu rows need us w) (hb1 : Below w.heap.size w w1)
    (hrow : OwnL boE 1 4 B w (.slice r.a nu r.c) r.r) (hrl : r.r.length = nu) (hfr : ∀ b ∈ adB r.a, b ∉ (bX :: (adB R ++ (adB N ++ (adB U ++ rwB rows)))))
    (ha : App w1 w2 B 94 1 (.slice R rows.length rc) g cap rows.length 1 (rows.flatMap (rwE nu)) (rwE nu r)) :
    MatP B bX (some ⟨g, 0, none⟩) cap N nc U uc nu (rows ++ [r]) need us (w2.setCell ⟨bX, 0, none⟩ (.slice (some ⟨g, 0, none⟩) (rows.length + 1) cap)) ∧ Far (bX :: adB R) w (w2.setCell ⟨bX, 0, none⟩ (.slice (some ⟨g, 0, none⟩) (rows.length + 1) cap)) := by
  have h1 := h.to hb1
  have hs1 := hb1.size
  have hd := h.nd
  rw [List.nodup_cons] at hd
  obtain ⟨d0, d1⟩ := hd
  have d2 := nd_app d1
  have d3 := (List.nodup_append.1 d1).2.1
  have hF2 : Far (adB R) w1 w2 := Far.grown ha.grown (fun b hb => adB_own hb)
  have hF3 := Far.cell w2 bX 0 (.slice (some ⟨g, 0, none⟩) (rows.length + 1) cap)
  have hg : g ∈ adB R ∨ w.heap.size ≤ g := by
    rcases ha.at_ with e | e
    · exact Or.inl (adB_own e)
    · exact Or.inr (by omega)
  have hin := h.inB
  -- a block that is neither R's nor bX stays
  have st : ∀ {e size n m c : Nat} {A : Option Addr} {xs : List Value}, w.ownsRow B e size (.slice A m c) n xs → (∀ b ∈ adB A, b ∉ adB R ∧ b ≠ bX) → (w2.setCell ⟨bX, 0, none⟩ (.slice (some ⟨g, 0, none⟩) (rows.length + 1) cap)).ownsRow B e size (.slice A m c) n xs := fun ho hn =>
    own_far (own_far (own_below ho hb1 (Nat.le_refl _)) hF2 (fun b hb => (hn b hb).1)) hF3 (fun b hb => by simp; exact (hn b hb).2)
  have hgX : g ≠ bX := fun e => by
    rcases hg with h2 | h2
    · exact d0 (by rw [← e]; simp [h2])
    · have := h.blk.lt; omega
  have hnotR : ∀ b ∈ adB N ++ (adB U ++ rwB rows), b ∉ adB R ∧ b ≠ bX := fun b hb => ⟨fun e => d2 b e hb, fun e => d0 (by rw [← e]; simp only [List.mem_append] at hb ⊢; exact Or.inr hb)⟩
  have hgn : ∀ b ∈ adB N ++ (adB U ++ rwB rows), g ≠ b := fun b hb e => by
    rcases hg with h2 | h2
    · exact d2 g h2 (by rw [e]; exact hb)
    · have := (hin b (by simp only [List.mem_cons, List.mem_append] at hb ⊢; exact Or.inr (Or.inr hb))).2; omega
  have hrn : ∀ b ∈ adB r.a, b < w.heap.size := fun b hb => (own_in hrow b hb).2
  have hgr : ∀ b ∈ adB r.a, g ≠ b := fun b hb e => by
    rcases hg with h2 | h2
    · exact hfr b hb (by simp only [List.mem_cons, List.mem_append]; exact Or.inr (Or.inl (by rw [← e]; exact h2)))
    · have := hrn b hb; omega
  refine ⟨⟨?_, h.ge, ?_, fun r' hr' => ?_, st h.hneed (fun b hb => hnotR b (by simp [hb])), st h.hused (fun b hb => hnotR b (by simp [hb])), ?_, h.lu⟩, ?_⟩
  · have hbl : Blk w2 bX 93 [.slice R rows.length rc, .slice N need.length nc, .slice U nu uc] := h1.blk.far hF2 (fun e => d0 (by simp [e]))
    have := hbl.set 0 (.slice (some ⟨g, 0, none⟩) (rows.length + 1) cap)
    rw [List.length_append]
    exact this
  · have ho : OwnL (rwE nu) 1 94 B w2 (.slice (some ⟨g, 0, none⟩) (rows.length + 1) cap) (rows ++ [r]) := ha.one rfl
    rw [List.length_append]
    exact own_far ho hF3 (fun b hb => by simp [adB] at hb; simp; omega)
  · rcases List.mem_append.1 hr' with e | e
    · exact ⟨st (h.row r' e).1 (fun b hb => hnotR b (by simp only [List.mem_append]; exact Or.inr (Or.inr (List.mem_flatMap.2 ⟨r', e, hb⟩)))), (h.row r' e).2⟩
    · simp at e
      subst e
      exact ⟨st hrow (fun b hb => ⟨fun e => hfr b hb (by simp [e]), fun e => hfr b hb (by simp [e])⟩), hrl⟩
  · rw [rwB_snoc, List.nodup_cons]
    refine ⟨fun e => ?_, ?_⟩
    · simp only [adB, Option.map_some, Option.toList_some, List.mem_append, List.mem_singleton] at e
      rcases e with e | e | e | e | e
      · exact hgX e.symm
      · exact d0 (by simp only [List.mem_append]; exact Or.inr (Or.inl e))
      · exact d0 (by simp only [List.mem_append]; exact Or.inr (Or.inr (Or.inl e)))
      · exact d0 (by simp only [List.mem_append]; exact Or.inr (Or.inr (Or.inr e)))
      · exact hfr bX (by unfold adB; exact e) (by simp)
    · have hS : (adB N ++ (adB U ++ (rwB rows ++ adB r.a))).Nodup := by
        rw [← List.append_assoc (adB U), ← List.append_assoc (adB N)]
        refine List.nodup_append.2 ⟨d3, adB_nodup _, fun a ha' b hb e => ?_⟩
        subst e
        exact hfr a hb (by simp only [List.mem_cons]; right; simp only [List.mem_append] at ha' ⊢; exact Or.inr ha')
      refine List.nodup_append.2 ⟨adB_nodup _, hS, fun a ha' b hb e => ?_⟩
      subst e
      simp [adB] at ha'
      subst ha'
      rw [← List.append_assoc (adB U), ← List.append_assoc (adB N)] at hb
      rcases List.mem_append.1 hb with e | e
      · exact hgn _ e rfl
      · exact hgr _ e rfl
  · exact (((Far.of (bs := bX :: adB R) hb1).trans hF2 (fun y hy => Or.inl (by simp [hy])))).trans hF3 (fun y hy => Or.inl (by simp at hy; simp [hy]))
/-- One more number. -/
theorem MatP.addN {B bX : Nat} {R : Option Addr} {rc : Nat} {N : Option Addr} {nc : Nat} {U : Option Addr} {uc nu : Nat} {rows : List Rw} {need : List Nat} {us : List Int} {w w1 w2 : World} {k g cap : Nat} (h : MatP B bX R rc N nc U uc nu rows need us w) (hb1 : Below w.heap.size w w1)
    (ha : App w1 w2 B 3 1 (.slice N need.length nc) g cap need.length 1 (need.flatMap nE) (nE k)) :
    MatP B bX R rc (some ⟨g, 0, none⟩) cap U uc nu rows (need ++ [k]) us (w2.setCell ⟨bX, 1, none⟩ (.slice (some ⟨g, 0, none⟩) (need.length + 1) cap)) ∧ Far (bX :: adB N) w (w2.setCell ⟨bX, 1, none⟩ (.slice (some ⟨g, 0, none⟩) (need.length + 1) cap)) := by
  have h1 := h.to hb1
  have hs1 := hb1.size
  have hd := h.nd
  rw [List.nodup_cons] at hd
  obtain ⟨d0, d1⟩ := hd
  have d2 := nd_app d1
  have d3 := (List.nodup_append.1 d1).2.1
  have d4 := nd_app d3
  have d5 := (List.nodup_append.1 d3).2.1
  have hF2 : Far (adB N) w1 w2 := Far.grown ha.grown (fun b hb => adB_own hb)
  have hF3 := Far.cell w2 bX 1 (.slice (some ⟨g, 0, none⟩) (need.length + 1) cap)
  have hg : g ∈ adB N ∨ w.heap.size ≤ g := by
    rcases ha.at_ with e | e
    · exact Or.inl (adB_own e)
    · exact Or.inr (by omega)
  have hin := h.inB
  have st : ∀ {e size n m c : Nat} {A : Option Addr} {xs : List Value}, w.ownsRow B e size (.slice A m c) n xs → (∀ b ∈ adB A, b ∉ adB N ∧ b ≠ bX) → (w2.setCell ⟨bX, 1, none⟩ (.slice (some ⟨g, 0, none⟩) (need.length + 1) cap)).ownsRow B e size (.slice A m c) n xs := fun ho hn =>
    own_far (own_far (own_below ho hb1 (Nat.le_refl _)) hF2 (fun b hb => (hn b hb).1)) hF3 (fun b hb => by simp; exact (hn b hb).2)
  have hgX : g ≠ bX := fun e => by
    rcases hg with h2 | h2
    · exact d0 (by rw [← e]; simp [h2])
    · have := h.blk.lt; omega
  have hnotN : ∀ b ∈ adB R ++ (adB U ++ rwB rows), b ∉ adB N ∧ b ≠ bX := fun b hb => by
    rcases List.mem_append.1 hb with e | e
    · exact ⟨fun e2 => d2 b e (by simp [e2]), fun e2 => d0 (by rw [← e2]; simp [e])⟩
    · exact ⟨fun e2 => d4 b e2 e, fun e2 => d0 (by rw [← e2]; simp only [List.mem_append] at e ⊢; exact Or.inr (Or.inr e))⟩
  have hgn : ∀ b ∈ adB R ++ (adB U ++ rwB rows), g ≠ b := fun b hb e => by
    rcases hg with h2 | h2
    · exact (hnotN b hb).1 (by rw [← e]; exact h2)
    · have := (hin b (by simp only [List.mem_cons, List.mem_append] at hb ⊢; rcases hb with e | e | e
                         · exact Or.inr (Or.inl e)
                         · exact Or.inr (Or.inr (Or.inr (Or.inl e)))
                         · exact Or.inr (Or.inr (Or.inr (Or.inr e))))).2
      omega
  refine ⟨⟨?_, h.ge, st h.outer (fun b hb => hnotN b (by simp [hb])), fun r' hr' => ⟨st (h.row r' hr').1 (fun b hb => hnotN b (by simp only [List.mem_append]; exact Or.inr (Or.inr (List.mem_flatMap.2 ⟨r', hr', hb⟩)))), (h.row r' hr').2⟩, ?_, st h.hused (fun b hb => hnotN b (by simp [hb])), ?_, h.lu⟩, ?_⟩
  · have hbl : Blk w2 bX 93 [.slice R rows.length rc, .slice N need.length nc, .slice U nu uc] := h1.blk.far hF2 (fun e => d0 (by simp [e]))
    have := hbl.set 1 (.slice (some ⟨g, 0, none⟩) (need.length + 1) cap)
    rw [List.length_append]
    exact this
  · have ho : OwnL nE 1 3 B w2 (.slice (some ⟨g, 0, none⟩) (need.length + 1) cap) (need ++ [k]) := ha.one rfl
    rw [List.length_append]
    exact own_far ho hF3 (fun b hb => by simp [adB] at hb; simp; omega)
  · rw [List.nodup_cons]
    refine ⟨fun e => ?_, ?_⟩
    · simp only [adB, Option.map_some, Option.toList_some, List.mem_append, List.mem_singleton] at e
      rcases e with e | e | e | e
      · exact d0 (by simp only [List.mem_append]; exact Or.inl e)
      · exact hgX e.symm
      · exact d0 (by simp only [List.mem_append]; exact Or.inr (Or.inr (Or.inl e)))
      · exact d0 (by simp only [List.mem_append]; exact Or.inr (Or.inr (Or.inr e)))
    · refine List.nodup_append.2 ⟨adB_nodup _, ?_, fun a ha' b hb e => ?_⟩
      · refine List.nodup_append.2 ⟨adB_nodup _, d5, fun a ha' b hb e => ?_⟩
        subst e
        simp [adB] at ha'
        subst ha'
        exact hgn _ (by simp only [List.mem_append] at hb ⊢; exact Or.inr hb) rfl
      · subst e
        rcases List.mem_append.1 hb with e | e
        · simp [adB] at e
          subst e
          exact hgn _ (by simp [ha']) rfl
        · exact d2 a ha' (by simp only [List.mem_append] at e ⊢; exact Or.inr e)
  · exact (((Far.of (bs := bX :: adB N) hb1).trans hF2 (fun y hy => Or.inl (by simp [hy])))).trans hF3 (fun y hy => Or.inl (by simp at hy; simp [hy]))
end Go.Proofs.Ytckbhdokfkabfaa
