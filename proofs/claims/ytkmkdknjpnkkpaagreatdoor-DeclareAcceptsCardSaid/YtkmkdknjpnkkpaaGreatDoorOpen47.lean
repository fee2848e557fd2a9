/-
  Chapter 47: opening tasks, lists, tables; what the library's functions want of a world.
-/
import Derived.Test.YtkmkdknjpnkkpaaGreatDoorRows
import Derived.Test.YtkmkdknjpnkkpaaGreatDoorOpenQ
import Derived.Test.YtkmkdknjpnkkpaaGreatDoorCkT47
import Derived.LaidSub
import Derived.Shelf.Vars
set_option linter.unusedSimpArgs false
set_option linter.unusedVariables false
namespace Go.Proofs.YtkmkdknjpnkkpaaGreatDoor
open Go.RowKit Go.ChangeShapes Go.WideShapes Go.ChangeAt Go.Deep
set_option maxRecDepth 100000
def rgI (x : Int) : Prop := -9223372036854775808 ≤ x ∧ x ≤ 9223372036854775807
section
variable {H : Type} {tok : TypeId × Value → H} {w : World} {base : Nat} {spare : Nat → Bool} {held : Bool}
theorem oc_el (n : Nat) (cs : List Value) (y : DataW H × List MemPlace) (h : DataW.trod tok Tryz.prog w base spare held n 56 cs = some y) : ∃ z : Oc, cs = ocE z := by
  obtain ⟨xs, m, rfl, _, hlen, hxl, hf⟩ := DataW.trod_struct Tryz.underlying56 h
  have hC : Tryz.prog.cellsOf 56 = 3 := by kernel_rfl
  rw [hC] at hlen
  match cs, hlen with
  | [a, b, c], _ =>
    match xs, hxl with
    | [p, q, r], _ =>
      have f0 := hf 0 _ rfl
      have f1 := hf 1 _ rfl
      have f2 := hf 2 _ rfl
      simp only [List.getElem?_cons_zero, List.getElem?_cons_succ] at f0 f1 f2
      obtain ⟨x0, e0, _⟩ := DataW.trod_int Tryz.underlying3 f0
      obtain ⟨x1, e1, _⟩ := DataW.trod_bool Tryz.underlying4 f1
      obtain ⟨x2, e2, _⟩ := DataW.trod_int Tryz.underlying2 f2
      injection e0 with e0
      injection e1 with e1
      injection e2 with e2
      subst e0 e1 e2
      exact ⟨⟨x0, x1, x2⟩, rfl⟩
theorem i64_el (n : Nat) (cs : List Value) (y : DataW H × List MemPlace) (h : DataW.trod tok Tryz.prog w base spare held n 2 cs = some y) : ∃ z : Int, cs = inE z ∧ rgI z := by
  obtain ⟨x0, e0, _, w0⟩ := DataW.trod_int Tryz.underlying2 h
  exact ⟨x0, e0, i64_of_wf w0⟩
theorem int_el (n : Nat) (cs : List Value) (y : DataW H × List MemPlace) (h : DataW.trod tok Tryz.prog w base spare held n 3 cs = some y) : ∃ z : Int, cs = inE z := by
  obtain ⟨x0, e0, _⟩ := DataW.trod_int Tryz.underlying3 h
  exact ⟨x0, e0⟩
theorem open_rows {fuel : Nat} {v : Value} {x : DataW H × List MemPlace} (h : DataW.trod tok Tryz.prog w base spare held fuel 23 [v] = some x) :
    ∃ A c l, v = .slice A l.length c ∧ l.length ≤ c ∧ c ≤ maxLen ∧ Rd2 w w.heap.size A l := by
  have hC : Tryz.prog.cellsOf 43 = 1 := by kernel_rfl
  rcases open_slice Tryz.underlying23 h with ⟨hcs, _⟩ | ⟨a, len, cap, m, n, D, Pl, hcs, hb, hl, hm, hmm, hx, hi⟩
  · injection hcs with hcs _
    exact ⟨none, 0, [], hcs, Nat.le_refl _, by decide, fun k x hx => by simp at hx⟩
  · injection hcs with hcs _
    have hlm : len ≤ m := by rw [hmm]; split <;> omega
    have key : ∀ i, i < len → ∃ z : List Int, ∃ A' c', w.cell? (a.add i) = some (.slice A' z.length c') ∧ Rd inE 1 w w.heap.size A' z := by
      intro i hlt
      obtain ⟨cs', hc, htr⟩ := hi i (by omega)
      rw [hC] at hc
      obtain ⟨_, hcl, hat⟩ := World.cells?_some hc
      match cs', hcl, hat, htr with
      | [], h0, _, _ => simp at h0
      | [u], _, hat, htr =>
        have hu := hat 0 (by omega)
        obtain ⟨A', c', z, e1, _, _, hr⟩ := open_list (enc := inE) Tryz.underlying43 (by kernel_rfl) (by decide) inE_len (fun n cs y h => by obtain ⟨z, h1, _⟩ := i64_el n cs y h; exact ⟨z, h1⟩) htr
        subst e1
        exact ⟨z, A', c', by simpa [Addr.add] using hu, hr⟩
      | _ :: _ :: _, h0, _, _ => simp at h0
    obtain ⟨f, hf⟩ := choose_lt key
    have hll : ((List.range len).map f).length = len := by simp
    refine ⟨some a, cap, (List.range len).map f, by rw [hll]; exact hcs, by rw [hll]; exact hl, hm, ?_⟩
    intro k z hz
    have hk : k < len := by have := (List.getElem?_eq_some_iff.1 hz).1; simpa using this
    have hz2 : f k = z := by simpa [hk] using hz
    obtain ⟨A', c', hcell, hr⟩ := hf k hk
    rw [hz2] at hcell hr
    obtain ⟨b, off, spot⟩ := a
    have hsp : spot = none := by
      obtain ⟨_, _, h0, _⟩ := hf 0 (by omega)
      simpa [Addr.add] using World.cell?_spot h0
    subst hsp
    rw [Addr.add_lit] at hcell
    exact ⟨b, off, rfl, World.block_lt_of_cell? w ⟨b, off + k, none⟩ hcell, A', c', hcell, hr⟩
theorem open_taskD {v : Value} {d : DataW H} {p : List MemPlace} {r : Reach} {b0 : Nat} (hv : Value.okWide Tryz.prog w r b0 25 v) (h : DataW.Trod tok Tryz.prog w base spare held 25 v d p) :
    ∃ t A W c wc, v = tkV t A W c wc ∧ Rd ocE 3 w w.heap.size A t.d ∧ Rd2 w w.heap.size W t.win := by
  obtain ⟨cs, rfl, hsz⟩ := okWide_struct Tryz.underlying25 hv
  have hC : Tryz.prog.cellsOf 25 = 5 := by kernel_rfl
  rw [hC] at hsz
  obtain ⟨fuel, hf⟩ := h
  obtain ⟨xs, m, hx, _, hlen, hxl, hfl⟩ := DataW.trod_struct Tryz.underlying25 hf
  obtain ⟨ls⟩ := cs
  have hl5 : ls.length = 5 := hsz
  match ls, hl5, hlen, hfl with
  | [a0, a1, a2, a3, a4], _, _, hfl =>
    match xs, hxl with
    | [p0, p1, p2, p3, p4], _ =>
      have f0 := hfl 0 _ rfl
      have f1 := hfl 1 _ rfl
      have f2 := hfl 2 _ rfl
      have f3 := hfl 3 _ rfl
      have f4 := hfl 4 _ rfl
      simp only [List.getElem?_cons_zero, List.getElem?_cons_succ] at f0 f1 f2 f3 f4
      obtain ⟨x0, e0, _⟩ := DataW.trod_int Tryz.underlying3 f0
      obtain ⟨x1, e1, _⟩ := DataW.trod_int Tryz.underlying3 f1
      obtain ⟨x2, e2, _⟩ := DataW.trod_int Tryz.underlying3 f2
      injection e0 with e0
      injection e1 with e1
      injection e2 with e2
      subst e0 e1 e2
      obtain ⟨A, c, l, e3, g1, g2, g3⟩ := open_list (enc := ocE) Tryz.underlying22 (by kernel_rfl) (by decide) ocE_len oc_el f3
      obtain ⟨A2, c2, l2, e4, k1, k2, k3⟩ := open_rows f4
      subst e3 e4
      exact ⟨⟨x0, x1, x2, l, l2⟩, A, A2, c, c2, rfl, g3, k3⟩
end
theorem maxlen_of {W : World} (hs : W.ShapedOpen Tryz.prog) : ∃ m, W.cell? ⟨0, 0, none⟩ = some (.int .i64 m) :=
  cell_of_shapedOpen_int hs (g := 0) (t := 3) (zero := #[.int .i64 0]) (of_decide_eq_true (by kernel_rfl)) (by kernel_rfl) rfl (by kernel_rfl) (by kernel_rfl) Tryz.underlying3
end Go.Proofs.YtkmkdknjpnkkpaaGreatDoor
