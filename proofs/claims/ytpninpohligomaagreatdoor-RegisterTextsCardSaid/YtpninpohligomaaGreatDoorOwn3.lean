/-
  Lists of the call's own of unlike elements: an append to one leaves the others. Fields of a row.
-/
import Derived.Test.YtpninpohligomaaGreatDoorRtP54
import Derived.Test.YtpninpohligomaaGreatDoorApp
import Derived.Test.YtpninpohligomaaGreatDoorWords
set_option linter.unusedSimpArgs false
set_option linter.unusedVariables false
namespace Go.Proofs.YtpninpohligomaaGreatDoor
open Go.RowKit
theorem own_apart {α : Type} {enc : α → List Value} {size size' e e' base base' n : Nat} {w w' : World} {v v' : Value} {l : List α} {xs : List Value} (h : OwnL enc size e base w v l) (h' : w.ownsRow base' e' size' v' n xs) (hne : e' ≠ e) (hg : w.grownBy w' v'.ownBlock) : OwnL enc size e base w' v l := by
  refine World.ownsRow.kept h hg ?_
  rcases h.2 with ⟨rfl, _⟩ | ⟨g, cap, cur, rfl, _, hgb, _⟩
  · exact .inl rfl
  · refine .inr fun e2 => ?_
    rcases h'.2 with ⟨rfl, _⟩ | ⟨g', cap', cur', rfl, _, hgb', _⟩
    · simp [Value.ownBlock] at e2
    · obtain rfl : g = g' := by simpa [Value.ownBlock] using e2
      rw [hgb] at hgb'
      injection hgb' with h1
      injection h1 with _ h2 _
      exact hne h2.symm
/-- Behind an append to the first of three. -/
theorem app_three {α β γ : Type} {e1 : α → List Value} {e2 : β → List Value} {e3 : γ → List Value} {s1 s2 s3 t1 t2 t3 b1 b2 b3 : Nat} {w W w6 : World} {A : Option Addr} {c g cap : Nat} {l1 : List α} {v2 v3 : Value} {l2 : List β} {l3 : List γ} {x : α} {n0 : Nat}
    (hb : Below n0 w W) (hn : n0 ≤ b1) (hn2 : n0 ≤ w.heap.size) (h1 : OwnL e1 s1 t1 b1 W (.slice A l1.length c) l1) (h2 : OwnL e2 s2 t2 b2 W v2 l2) (h3 : OwnL e3 s3 t3 b3 W v3 l3) (ha : App W w6 b1 t1 s1 (.slice A l1.length c) g cap l1.length 1 (l1.flatMap e1) (e1 x)) (hne : t1 ≠ t2) (hne3 : t1 ≠ t3) :
    OwnL e1 s1 t1 b1 w6 (.slice (some ⟨g, 0, none⟩) (l1 ++ [x]).length cap) (l1 ++ [x]) ∧ OwnL e2 s2 t2 b2 w6 v2 l2 ∧ OwnL e3 s3 t3 b3 w6 v3 l3 ∧ Below n0 w w6 := by
  refine ⟨?_, own_apart h2 h1 hne ha.grown, own_apart h3 h1 hne3 ha.grown, hb.grown ha.grown (Nat.le_trans hn2 hb.size) (fun k e => Nat.le_trans hn (own_block_lt h1 e).1)⟩
  have := own_snoc ha.own
  rw [List.length_append]
  exact this
theorem splS_at {c : UInt8} {l : List UInt8} {k : Nat} {x : List UInt8} (h : (splitC c l)[k]? = some x) : (splS c l)[k]? = some (baT x) := by
  unfold splS
  rw [List.getElem?_map, h]; rfl
theorem splS_length (c : UInt8) (l : List UInt8) : (splS c l).length = (splitC c l).length := by simp [splS]
/-- The fields of a row as cells. -/
theorem flds {w : World} {B : Nat} {A : Option Addr} {r : List UInt8} (h : Rd stE 1 w B A (splS 32 r)) : ∃ b off, A = some ⟨b, off, none⟩ ∧ b < B ∧ ∀ (k : Nat) x, (splitC 32 r)[k]? = some x → w.cell? ⟨b, off + k, none⟩ = some (.string (baT x)) := by
  have hne := splitC_ne 32 r
  obtain ⟨x0, hx0⟩ : ∃ x, (splitC 32 r)[0]? = some x := by
    cases hs : splitC 32 r with
    | nil => exact absurd hs hne
    | cons a t => exact ⟨a, rfl⟩
  obtain ⟨b, off, rfl, hb, _⟩ := h 0 _ (splS_at hx0)
  refine ⟨b, off, rfl, hb, fun k x hx => ?_⟩
  obtain ⟨b', off', e, _, hc⟩ := h k _ (splS_at hx)
  injection e with e
  injection e with e1 e2
  subst e1 e2
  have := st_cell hc
  simpa using this
theorem own_rd {α : Type} {enc : α → List Value} {size e base n c : Nat} {w : World} {A : Option Addr} {l : List α} (hs : ∀ x, (enc x).length = size) (h : OwnL enc size e base w (.slice A n c) l) : Rd enc size w w.heap.size A l ∧ ∀ b off, A = some ⟨b, off, none⟩ → off = 0 := by
  obtain ⟨A', c', e, h1, h2⟩ := OwnL.rd hs h
  injection e with e1 _ _
  subst e1
  exact ⟨h1, fun b off e => (h2 b off e).2⟩
theorem baT_toList (x : List UInt8) : (baT x).toList = x := by rw [ByteArray.toList_eq, baT_list]
theorem baT_ne {x c : List UInt8} (h : x ≠ c) : ((baT x).toList == c) = false := by rw [baT_toList]; simpa using h
theorem rowsT_nw {R : List (List UInt8)} {k : Nat} {r : List UInt8} {ws : List Wn} {l : List Tr} {x : Wn} (hr : R[k]? = some r) (h : rowsT (R.take k) = some (ws, l)) (hz : itemT (splitC 32 r) = some (.inl x)) : rowsT (R.take (k + 1)) = some (ws ++ [x], l) := by
  rw [List.take_add_one, hr]; exact rowsT_win h hz
theorem rowsT_nt {R : List (List UInt8)} {k : Nat} {r : List UInt8} {ws : List Wn} {l : List Tr} {x : Tr} (hr : R[k]? = some r) (h : rowsT (R.take k) = some (ws, l)) (hz : itemT (splitC 32 r) = some (.inr x)) : rowsT (R.take (k + 1)) = some (ws, l ++ [x]) := by
  rw [List.take_add_one, hr]; exact rowsT_tr h hz
theorem rowsT_bad {R : List (List UInt8)} {k : Nat} {r : List UInt8} (hr : R[k]? = some r) (hz : itemT (splitC 32 r) = none) : rowsT R = none := by
  have e : R = (R.take k ++ [r]) ++ R.drop (k + 1) := by
    obtain ⟨hk, rfl⟩ := List.getElem?_eq_some_iff.1 hr
    rw [List.append_assoc, List.singleton_append, ← List.drop_eq_getElem_cons hk, List.take_append_drop]
  rw [e]
  exact rowsT_badp (rowsT_bad1 hz)
theorem last_at {f : List (List UInt8)} {q : Nat} {L : List UInt8} (h : f.length = q + 1) (hL : f[q]? = some L) : f.getLastD [] = L := by
  rw [List.getLastD_eq_getLast?, List.getLast?_eq_getElem?, h, Nat.add_sub_cancel, hL]; rfl
section
variable {f : List (List UInt8)} {L h0 : List UInt8} {x y : Int}
theorem item_no (hl : f.getLastD [] = L) (hv : numP L 0 1000000 = (x, y)) (hy : y ≠ 0) : itemT f = none := by
  unfold itemT
  rw [hl, hv, if_pos hy]
theorem item_win (hl : f.getLastD [] = L) (hv : numP L 0 1000000 = (x, 0)) {a b c : List UInt8} (hf : f = [a, b, c]) (ha : a = sWIN) {x1 y1 : Int} (hv1 : numP b 0 1000000 = (x1, y1)) : itemT f = if y1 ≠ 0 then none else some (.inl ⟨x1, x⟩) := by
  unfold itemT
  rw [hl, hv, if_neg (by simp), hf]
  simp [ha, hv1]
theorem item_join (hl : f.getLastD [] = L) (hv : numP L 0 1000000 = (x, 0)) {a b c d : List UInt8} (hf : f = [a, b, c, d]) (ha : a = sJOIN) : itemT f = some (.inr ⟨baT b, baT c, x⟩) := by
  unfold itemT
  rw [hl, hv, if_neg (by simp), hf]
  simp [ha, sJOIN, sWIN]
theorem item_leave (hl : f.getLastD [] = L) (hv : numP L 0 1000000 = (x, 0)) {a b c : List UInt8} (hf : f = [a, b, c]) (ha : a = sLEAVE) : itemT f = some (.inr ⟨baT b, ⟨#[]⟩, x⟩) := by
  unfold itemT
  rw [hl, hv, if_neg (by simp), hf]
  simp [ha, sJOIN, sWIN, sLEAVE]
theorem item_else (h1 : ¬ (f.headD [] = sWIN ∧ f.length = 3)) (h2 : ¬ (f.headD [] = sJOIN ∧ f.length = 4)) (h3 : ¬ (f.headD [] = sLEAVE ∧ f.length = 3)) : itemT f = none := by
  unfold itemT
  rw [if_neg h1, if_neg h2, if_neg h3]
  split <;> rfl
theorem headF_at (h : f[0]? = some h0) : f.headD [] = h0 := by
  cases f with
  | nil => simp at h
  | cons a t => simpa using h
theorem three_of (h : f.length = 3) : ∃ a b c, f = [a, b, c] := by
  match f, h with
  | [a, b, c], _ => exact ⟨a, b, c, rfl⟩
theorem four_of (h : f.length = 4) : ∃ a b c d, f = [a, b, c, d] := by
  match f, h with
  | [a, b, c, d], _ => exact ⟨a, b, c, d, rfl⟩
end
end Go.Proofs.YtpninpohligomaaGreatDoor
