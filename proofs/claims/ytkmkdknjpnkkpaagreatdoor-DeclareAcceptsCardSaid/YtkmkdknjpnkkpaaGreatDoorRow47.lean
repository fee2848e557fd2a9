/-
  Chapter 47: a table of the call's own: rows in blocks of their own, and a row of these rows.
-/
import Derived.Test.YtkmkdknjpnkkpaaGreatDoorVal47
import Derived.Test.YtkmkdknjpnkkpaaGreatDoorApp
set_option linter.unusedSimpArgs false
set_option linter.unusedVariables false
namespace Go.Proofs.YtkmkdknjpnkkpaaGreatDoor
open Go.RowKit
set_option maxRecDepth 100000
set_option maxHeartbeats 1000000

/-- A row: its block, its room, what it holds. -/
structure Rw where
  g : Nat
  c : Nat
  l : List Int
abbrev rwV (r : Rw) : Value := .slice (some ⟨r.g, 0, none⟩) r.l.length r.c
def rwE (r : Rw) : List Value := [rwV r]
theorem rwE_len (r : Rw) : (rwE r).length = 1 := rfl
theorem Tryz.infoRw : (Tryz.prog.info? 43).map (fun i => (i.zero, i.size, i.bytes)) = some (some (.slice none 0 0), 1, 24) := by kernel_rfl
theorem Tryz.rwElem : ElemOf Tryz.prog rwE 1 24 23 43 := .mk' Tryz.infoRw rfl Tryz.underlying23 (by decide) rwE_len (fun x u hu => by simp [rwE] at hu; subst hu; rfl)
theorem Tryz.infoI64 : (Tryz.prog.info? 2).map (fun i => (i.zero, i.size, i.bytes)) = some (some (.int .i64 0), 1, 8) := by kernel_rfl
theorem Tryz.i64Elem : ElemOf Tryz.prog inE 1 8 43 2 := .mk' Tryz.infoI64 rfl Tryz.underlying43 (by decide) inE_len (fun x u hu => by simp [inE] at hu; subst hu; rfl)

theorem own_rw {w : World} {base e : Nat} {v : Value} {l : List Int} (h : OwnL inE 1 e base w v l) (hl : l ≠ []) : ∃ g c, v = rwV ⟨g, c, l⟩ := by
  rcases h.2 with ⟨_, hn⟩ | ⟨g, cap, cur, rfl, _⟩
  · exact absurd (List.eq_nil_of_length_eq_zero hn) hl
  · exact ⟨g, cap, rfl⟩
theorem own_blk {α : Type} {enc : α → List Value} {size : Nat} {w : World} {base e g n c : Nat} {l : List α} (h : OwnL enc size e base w (.slice (some ⟨g, 0, none⟩) n c) l) : base ≤ g ∧ g < w.heap.size := by
  rcases h.2 with ⟨hv, _⟩ | ⟨g', cap, cur, hv, hb, hh, _⟩
  · cases hv
  · injection hv with h1
    injection h1 with h1
    injection h1 with h1
    subst h1
    exact ⟨hb, (Array.getElem?_eq_some_iff.1 hh).1⟩
theorem own_same {α : Type} {enc : α → List Value} {size : Nat} {w w' : World} {base e g n c : Nat} {l : List α} (h : OwnL enc size e base w (.slice (some ⟨g, 0, none⟩) n c) l) (hk : w'.heap[g]? = w.heap[g]?) : OwnL enc size e base w' (.slice (some ⟨g, 0, none⟩) n c) l := by
  refine ⟨h.1, ?_⟩
  rcases h.2 with h2 | ⟨g', cap, cur, hv, hb, hh, r⟩
  · exact .inl h2
  · injection hv with h1 h2 h3
    injection h1 with h1
    injection h1 with h1
    subst h1 h3
    exact .inr ⟨g, c, cur, by rw [h2], hb, by rw [hk]; exact hh, r⟩

structure Tab (w : World) (base : Nat) (v : Value) (rs : List Rw) : Prop where
  own : OwnL rwE 1 43 base w v rs
  rows : ∀ r ∈ rs, OwnL inE 1 2 base w (rwV r) r.l
  far : ∀ r ∈ rs, v.ownBlock ≠ some r.g
  dist : rs.Pairwise fun a b => a.g ≠ b.g
theorem Tab.nil (w : World) (base : Nat) : Tab w base (.slice none 0 0) [] := ⟨World.ownsRow_nil _ _ _ _, by simp, by simp, .nil⟩
theorem Tab.below {w w' : World} {base B : Nat} {v : Value} {rs : List Rw} (h : Tab w base v rs) (hb : Below B w w') (hB : w.heap.size ≤ B) : Tab w' base v rs :=
  ⟨own_below h.own hb hB, fun r hr => own_below (h.rows r hr) hb hB, h.far, h.dist⟩
theorem Tab.to {w w' : World} {base : Nat} {v : Value} {rs : List Rw} (h : Tab w base v rs) (hb : Below w.heap.size w w') : Tab w' base v rs := h.below hb (Nat.le_refl _)
theorem Tab.mono {w : World} {base base' : Nat} {v : Value} {rs : List Rw} (h : Tab w base v rs) (hb : base' ≤ base) : Tab w base' v rs :=
  ⟨own_mono h.own hb, fun r hr => own_mono (h.rows r hr) hb, h.far, h.dist⟩
theorem Tab.form {w : World} {base : Nat} {v : Value} {rs : List Rw} (h : Tab w base v rs) : ∃ A c, v = .slice A rs.length c := own_form h.own
theorem Tab.rd2 {w : World} {base : Nat} {A : Option Addr} {n c : Nat} {rs : List Rw} (h : Tab w base (.slice A n c) rs) : n = rs.length ∧ Rd2 w w.heap.size A (rs.map Rw.l) := by
  obtain ⟨A', c', e, hrd, _⟩ := OwnL.rd rwE_len h.own
  injection e with e1 e2 e3
  subst e1
  refine ⟨e2, fun k x hx => ?_⟩
  rw [List.getElem?_map] at hx
  obtain ⟨r, hr, rfl⟩ := Option.map_eq_some_iff.1 hx
  obtain ⟨b, off, e, hb, hc⟩ := hrd k r hr
  obtain ⟨A2, c2, e2, hrd2, _⟩ := OwnL.rd inE_len (h.rows r (List.mem_of_getElem? hr))
  injection e2 with e2 _ e3
  subst e2 e3
  have := hc 0 (rwV r) rfl
  refine ⟨b, off, e, hb, _, _, by simpa using this, hrd2⟩
theorem own_block_lt {α : Type} {enc : α → List Value} {size : Nat} {w : World} {base e : Nat} {v : Value} {l : List α} (h : OwnL enc size e base w v l) {g : Nat} (hg : v.ownBlock = some g) : base ≤ g ∧ g < w.heap.size := by
  rcases h.2 with ⟨rfl, _⟩ | ⟨g', cap, cur, rfl, hb, hh, _⟩
  · cases hg
  · injection hg with hg
    subst hg
    exact ⟨hb, (Array.getElem?_eq_some_iff.1 hh).1⟩
theorem Tab.app {w w0 w1 : World} {base : Nat} {A : Option Addr} {c g cap : Nat} {rs : List Rw} {r : Rw} (h : Tab w base (.slice A rs.length c) rs) (hb : Below w.heap.size w w0) (hr : OwnL inE 1 2 base w0 (rwV r) r.l) (hg : w.heap.size ≤ r.g)
    (ha : App w0 w1 base 43 1 (.slice A rs.length c) g cap rs.length 1 (rs.flatMap rwE) (rwE r)) : Tab w1 base (.slice (some ⟨g, 0, none⟩) (rs.length + 1) cap) (rs ++ [r]) := by
  have h0 := h.to hb
  have hbs := hb.size
  have hlt : ∀ x ∈ rs, x.g < w.heap.size := fun x hx => (own_blk (h.rows x hx)).2
  have hrl := (own_blk hr).2
  have hvl : ∀ b, (Value.slice A rs.length c).ownBlock = some b → b < w.heap.size := fun b e => (own_block_lt h.own e).2
  refine ⟨ha.one rfl, fun x hx => ?_, fun x hx => ?_, ?_⟩
  · rcases List.mem_append.1 hx with hx | hx
    · exact own_same (h0.rows x hx) (ha.grown.block x.g (by have := hlt x hx; omega) (fun e => h.far x hx e.symm))
    · simp at hx
      subst hx
      exact own_same hr (ha.grown.block _ hrl (fun e => by have := hvl _ e.symm; omega))
  · intro e
    have e : g = x.g := by injection e
    rcases ha.at_ with h1 | h1
    · rw [e] at h1
      rcases List.mem_append.1 hx with hx | hx
      · exact h.far x hx h1
      · simp at hx; subst hx; have := hvl _ h1; omega
    · rcases List.mem_append.1 hx with hx | hx
      · have := hlt x hx; omega
      · simp at hx; subst hx; omega
  · refine List.pairwise_append.2 ⟨h.dist, by simp, fun x hx y hy => ?_⟩
    simp at hy
    subst hy
    have := hlt x hx
    show x.g ≠ y.g
    omega

/-! The table. -/
def mostN (t : Tk) : Nat := (((t.d[t.d.length - 1]?).map Oc.r).getD 0).toNat
def rowT (t : Tk) (m : Nat) : List Int := lstT t m t.ld (mostN t * (t.ov.toNat - m) + 1)
def tabT (t : Tk) : List (List Int) := (List.range (t.ov.toNat + 1)).map (rowT t)
def TabT (t : Tk) : List (List Int) × Int := if ckT t ≠ 0 then ([], ckT t) else (tabT t, 0)
theorem rowT_len (t : Tk) (m : Nat) : (rowT t m).length = mostN t * (t.ov.toNat - m) + 1 := lstT_len _ _ _ _
theorem rowT_ne (t : Tk) (m : Nat) : rowT t m ≠ [] := fun e => by have := rowT_len t m; rw [e] at this; simp at this
theorem tabT_len (t : Tk) : (tabT t).length = t.ov.toNat + 1 := by simp [tabT]
theorem tabT_at {t : Tk} {m : Nat} (h : m ≤ t.ov.toNat) : (tabT t)[m]? = some (rowT t m) := by
  have h2 : m < t.ov.toNat + 1 := by omega
  simp only [tabT, List.getElem?_map, List.getElem?_range h2, Option.map_some]
theorem tabT_take {t : Tk} {m : Nat} (h : m ≤ t.ov.toNat) : (tabT t).take (m + 1) = (tabT t).take m ++ [rowT t m] := by
  rw [List.take_add_one, tabT_at h]; rfl
theorem most_at {t : Tk} (h : OkT t) : ∃ z : Oc, t.d[t.d.length - 1]? = some z ∧ z.r = mostN t ∧ mostN t ≤ 7 ∧ ∀ o ∈ t.d, 0 ≤ o.r ∧ o.r ≤ (mostN t : Int) := by
  obtain ⟨z, hz, h0, h7, hm⟩ := h.d.last
  have e : z.r = mostN t := by unfold mostN; rw [hz]; simp; omega
  exact ⟨z, hz, e, by omega, fun o ho => ⟨(h.d.each o ho).1, by have := hm o ho; omega⟩⟩
theorem vals_q (t : Tk) (hok : OkT t) (x y : Int) (m n : Nat) (hx : x = m) (hy : y = n) (hm : (m : Int) ≤ t.ov) (A W : Option Addr) (c wc : Nat) (lead : Int) (w : World) (hd : Rd ocE 3 w w.heap.size A t.d) (hw : Rd2 w w.heap.size W t.win) (hl : -10000 ≤ lead ∧ lead ≤ 10000) (hn : n + 7 * m ≤ 10000) :
    Calls Tryz.prog 29 #[tkV t A W c wc, .int .i64 lead, .int .i64 x, .int .i64 y] w fun e w' => ∃ v, e = .returned v ∧ OwnL inE 1 2 w.heap.size w' v (lstT t m lead n) ∧ Below w.heap.size w w' := by
  subst hx hy
  exact vals_p t hok m hm A W c wc lead n w hd hw hl hn
theorem Below.tabEnd {w wr w0 w1 : World} {base : Nat} {e : TypeId} {size : Nat} {v : Value} {g cap n m : Nat} {xs news : List Value} (hb : Below w.heap.size w wr) (hw : Below wr.heap.size wr w0) (ha : App w0 w1 base e size v g cap n m xs news) (hbase : ∀ b, v.ownBlock = some b → w.heap.size ≤ b) : Below w.heap.size w w1 :=
  (hb.trans (hw.mono hb.size)).grown ha.grown (by have := hb.size; have := hw.size; omega) hbase
end Go.Proofs.YtkmkdknjpnkkpaaGreatDoor
