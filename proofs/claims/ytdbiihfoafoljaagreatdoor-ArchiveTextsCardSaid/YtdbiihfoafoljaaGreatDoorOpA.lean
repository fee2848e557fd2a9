/-
  Chapter 58: opening entries, strings.
-/
import Derived.Test.YtdbiihfoafoljaaGreatDoorRows
import Derived.Test.YtdbiihfoafoljaaGreatDoorArcP
import Derived.Test.YtdbiihfoafoljaaGreatDoorBase
import Derived.ProofKit
import Derived.OpenShut
import Derived.ShutString
import Derived.ChangeOld
import Derived.Deep.Slices
import Derived.Deep.Fields
import Derived.ChangeSame
import Derived.Lib.SmallJoins
import Derived.ChangeMaps5
set_option linter.unusedSimpArgs false
set_option linter.unusedVariables false
namespace Go.Proofs.YtdbiihfoafoljaaGreatDoor
open Go.RowKit Go.ChangeShapes Go.WideShapes Go.ChangeAt Go.Deep
set_option maxRecDepth 100000
set_option maxHeartbeats 1000000
section
variable {H : Type} {tok : TypeId × Value → H} {P : Program} {w : World} {base : Nat} {spare : Nat → Bool} {held : Bool}

/-- A slice whose elements' cells are 'enc' of something. -/
theorem open_list {α : Type} [Inhabited α] {enc : α → List Value} {size : Nat} {t e : TypeId} {fuel : Nat} {v : Value} {x : DataW H × List MemPlace} (ht : P.underlying t = some (.slice e)) (hC : P.cellsOf e = size) (hpos : 0 < size) (hlen : ∀ z, (enc z).length = size)
    (hel : ∀ n cs y, DataW.trod tok P w base spare held n e cs = some y → ∃ z : α, cs = enc z) (h : DataW.trod tok P w base spare held fuel t [v] = some x) :
    ∃ A c l, v = .slice A l.length c ∧ l.length ≤ c ∧ c ≤ maxLen ∧ Rd enc size w w.heap.size A l := by
  rcases open_slice ht h with ⟨hcs, _⟩ | ⟨a, len, cap, m, n, D, Pl, hcs, hb, hl, hm, hmm, hx, hi⟩
  · injection hcs with hcs _
    exact ⟨none, 0, [], hcs, Nat.le_refl _, by decide, Rd.nil_⟩
  · injection hcs with hcs _
    have hlm : len ≤ m := by rw [hmm]; split <;> omega
    have key : ∀ i, i < len → ∃ z : α, ∀ j u, (enc z)[j]? = some u → w.cell? ((a.add (i * size)).add j) = some u := by
      intro i hlt
      obtain ⟨cs', hc, htr⟩ := hi i (by omega)
      obtain ⟨z, rfl⟩ := hel _ _ _ htr
      rw [hC] at hc
      obtain ⟨_, hcl, hat⟩ := World.cells?_some hc
      refine ⟨z, fun j u hu => ?_⟩
      have hj : j < size := by have := (List.getElem?_eq_some_iff.1 hu).1; omega
      rw [hat j hj]
      exact hu
    obtain ⟨f, hf⟩ := choose_lt key
    have hll : ((List.range len).map f).length = len := by simp
    refine ⟨some a, cap, (List.range len).map f, by rw [hll]; exact hcs, by rw [hll]; exact hl, hm, ?_⟩
    intro k z hz
    have hk : k < len := by have := (List.getElem?_eq_some_iff.1 hz).1; simpa using this
    have hz2 : f k = z := by simpa [hk] using hz
    have hcell := hf k hk
    rw [hz2] at hcell
    obtain ⟨b, off, spot⟩ := a
    have h0 : (enc z)[0]? = some ((enc z)[0]'(by rw [hlen]; exact hpos)) := List.getElem?_eq_getElem _
    have hc0 := hcell 0 _ h0
    have hsp : spot = none := by
      have h1 : (enc (f 0))[0]? = some ((enc (f 0))[0]'(by rw [hlen]; exact hpos)) := List.getElem?_eq_getElem _
      simpa [Addr.add] using World.cell?_spot (hf 0 (by omega) 0 _ h1)
    subst hsp
    refine ⟨b, off, rfl, World.block_lt_of_cell? w ⟨b, off + k * size + 0, none⟩ (by simpa [Addr.add_lit] using hc0), fun j u hu => ?_⟩
    have := hcell j u hu
    simpa [Addr.add_lit] using this

end
section
variable {H : Type} {tok : TypeId × Value → H} {P : Program} {w : World} {base : Nat} {spare : Nat → Bool} {held : Bool}
theorem open_listQ {α : Type} [Inhabited α] {enc : α → List Value} {Q : α → Prop} (hd : Q default) {size : Nat} {t e : TypeId} {fuel : Nat} {v : Value} {x : DataW H × List MemPlace} (ht : P.underlying t = some (.slice e)) (hC : P.cellsOf e = size) (hpos : 0 < size) (hlen : ∀ z, (enc z).length = size)
    (hel : ∀ n cs y, DataW.trod tok P w base spare held n e cs = some y → ∃ z : α, cs = enc z ∧ Q z) (h : DataW.trod tok P w base spare held fuel t [v] = some x) :
    ∃ A c l, v = .slice A l.length c ∧ l.length ≤ c ∧ c ≤ maxLen ∧ Rd enc size w w.heap.size A l ∧ ∀ z ∈ l, Q z := by
  haveI : Inhabited {z : α // Q z} := ⟨⟨default, hd⟩⟩
  obtain ⟨A, c, l, rfl, h1, h2, h3⟩ := open_list (α := {z : α // Q z}) (enc := fun z => enc z.1) ht hC hpos (fun z => hlen z.1) (fun n cs y hy => by obtain ⟨z, rfl, hz⟩ := hel n cs y hy; exact ⟨⟨z, hz⟩, rfl⟩) h
  refine ⟨A, c, l.map (·.1), by simp, by simpa using h1, h2, ?_, ?_⟩
  · intro k z hz
    rw [List.getElem?_map] at hz
    cases hk : l[k]? with
    | none => rw [hk] at hz; simp at hz
    | some y =>
      rw [hk] at hz
      simp only [Option.map_some, Option.some.injEq] at hz
      subst hz
      exact h3 k y hk
  · intro z hz
    obtain ⟨y, _, rfl⟩ := List.mem_map.1 hz
    exact y.2
end
theorem open_str {H : Type} {tok : TypeId × Value → H} {w : World} {base : Nat} {spare : Nat → Bool} {held : Bool} {v : Value} {d : DataW H} {p : List MemPlace} {r : Reach} {b0 : Nat} (hv : Value.okWide Tryz.prog w r b0 9 v) (h : DataW.Trod tok Tryz.prog w base spare held 9 v d p) :
    ∃ s, v = .string s ∧ s.size ≤ 9223372036854775807 := by
  obtain ⟨s, rfl, _, _, hs⟩ := Go.ChangeMaps.open_string Tryz.underlying9 hv h
  exact ⟨s, rfl, by unfold maxLen at hs; omega⟩
theorem u8_of_wf {n : Int} (h : (Lit.int .u8 n).wf = true) : 0 ≤ n ∧ n ≤ 255 := by
  simp [Lit.wf, IntKind.min, IntKind.max, IntKind.signed, IntKind.bits] at h
  omega
section
variable {H : Type} {tok : TypeId × Value → H} {w : World} {base : Nat} {spare : Nat → Bool} {held : Bool}
theorem del_el (n : Nat) (cs : List Value) (y : DataW H × List MemPlace) (h : DataW.trod tok Tryz.prog w base spare held n 36 cs = some y) : ∃ z : Del, cs = delE z ∧ 0 ≤ z.how ∧ 0 ≤ z.src := by
  obtain ⟨xs, m, rfl, _, hlen, hxl, hf⟩ := DataW.trod_struct Tryz.underlying36 h
  have hC : Tryz.prog.cellsOf 36 = 12 := by kernel_rfl
  rw [hC] at hlen
  match cs, hlen with
  | [a0, a1, a2, a3, a4, a5, a6, a7, a8, a9, a10, a11], _ =>
    match xs, hxl with
    | [p0, p1, p2, p3, p4, p5, p6, p7, p8, p9, p10, p11], _ =>
      have f0 := hf 0 _ rfl
      have f1 := hf 1 _ rfl
      have f2 := hf 2 _ rfl
      have f3 := hf 3 _ rfl
      have f4 := hf 4 _ rfl
      have f5 := hf 5 _ rfl
      have f6 := hf 6 _ rfl
      have f7 := hf 7 _ rfl
      have f8 := hf 8 _ rfl
      have f9 := hf 9 _ rfl
      have f10 := hf 10 _ rfl
      have f11 := hf 11 _ rfl
      simp only [List.getElem?_cons_zero, List.getElem?_cons_succ] at f0 f1 f2 f3 f4 f5 f6 f7 f8 f9 f10 f11
      obtain ⟨x0, e0, _, w0⟩ := DataW.trod_int Tryz.underlying32 f0
      obtain ⟨x1, e1, _, w1⟩ := DataW.trod_int Tryz.underlying33 f1
      obtain ⟨x2, e2, _, w2⟩ := DataW.trod_int Tryz.underlying3 f2
      obtain ⟨x3, e3, _, w3⟩ := DataW.trod_int Tryz.underlying3 f3
      obtain ⟨x4, e4, _, w4⟩ := DataW.trod_int Tryz.underlying3 f4
      obtain ⟨x5, e5, _⟩ := DataW.trod_bool Tryz.underlying4 f5
      obtain ⟨x6, e6, _, w6⟩ := DataW.trod_int Tryz.underlying34 f6
      obtain ⟨x7, e7, _, w7⟩ := DataW.trod_int Tryz.underlying3 f7
      obtain ⟨x8, e8, _, w8⟩ := DataW.trod_int Tryz.underlying3 f8
      obtain ⟨x9, e9, _, w9⟩ := DataW.trod_int Tryz.underlying3 f9
      obtain ⟨x10, e10, _⟩ := DataW.trod_bool Tryz.underlying4 f10
      obtain ⟨x11, e11, _, w11⟩ := DataW.trod_int Tryz.underlying3 f11
      injection e0 with e0
      injection e1 with e1
      injection e2 with e2
      injection e3 with e3
      injection e4 with e4
      injection e5 with e5
      injection e6 with e6
      injection e7 with e7
      injection e8 with e8
      injection e9 with e9
      injection e10 with e10
      injection e11 with e11
      subst e0 e1 e2 e3 e4 e5 e6 e7 e8 e9 e10 e11
      exact ⟨⟨x0, x1, x2, x3, x4, x5, x6, x7, x8, x9, x10, x11⟩, rfl, (u8_of_wf w6).1, (u8_of_wf w1).1⟩
instance : Inhabited Ev := ⟨zeroE⟩
theorem ev_el (n : Nat) (cs : List Value) (y : DataW H × List MemPlace) (h : DataW.trod tok Tryz.prog w base spare held n 38 cs = some y) : ∃ e : Ev, cs = evE e ∧ (0 ≤ e.ball.how ∧ 0 ≤ e.ball.src) := by
  have hC : Tryz.prog.cellsOf 38 = 19 := by kernel_rfl
  obtain ⟨xs, m, hx, _, hlen, hxl, hfl⟩ := DataW.trod_struct Tryz.underlying38 h
  rw [hC] at hlen
  match cs, hlen, hfl with
  | [a0, a1, a2, a3, a4, a5, a6, a7, a8, a9, a10, a11, a12, a13, a14, a15, a16, a17, a18], _, hfl =>
    match xs, hxl with
    | [p0, p1, p2, p3, p4, p5, p6, p7], _ =>
      have f0 := hfl 0 _ rfl
      have f1 := hfl 1 _ rfl
      have f2 := hfl 2 _ rfl
      have f3 := hfl 3 _ rfl
      have f4 := hfl 4 _ rfl
      have f5 := hfl 5 _ rfl
      have f6 := hfl 6 _ rfl
      have f7 := hfl 7 _ rfl
      simp only [List.getElem?_cons_zero, List.getElem?_cons_succ] at f0 f1 f2 f3 f4 f5 f6 f7
      obtain ⟨x0, e0, _, w0⟩ := DataW.trod_int Tryz.underlying31 f0
      obtain ⟨x1, e1, _, w1⟩ := DataW.trod_int Tryz.underlying3 f1
      obtain ⟨x2, e2, _, w2⟩ := DataW.trod_int Tryz.underlying3 f2
      obtain ⟨x3, e3, _, w3⟩ := DataW.trod_int Tryz.underlying3 f3
      obtain ⟨x4, e4, _⟩ := DataW.trod_bool Tryz.underlying4 f4
      obtain ⟨x5, e5, _, w5⟩ := DataW.trod_int Tryz.underlying3 f5
      obtain ⟨x6, e6, _, w6⟩ := DataW.trod_int Tryz.underlying3 f6
      obtain ⟨z, e7, hz1, hz2⟩ := del_el _ _ _ f7
      injection e0 with e0
      injection e1 with e1
      injection e2 with e2
      injection e3 with e3
      injection e4 with e4
      injection e5 with e5
      injection e6 with e6
      subst e0 e1 e2 e3 e4 e5 e6
      refine ⟨⟨x0, x1, x2, x3, x4, x5, x6, z⟩, ?_, hz1, hz2⟩
      have e7 : [a7, a8, a9, a10, a11, a12, a13, a14, a15, a16, a17, a18] = delE z := e7
      unfold evE
      rw [← e7]
      rfl
instance : Inhabited Ent := ⟨⟨0, zeroE, ByteArray.empty⟩⟩
def szA (z : Ent) : Prop := z.sc.size ≤ 9223372036854775807 ∧ 0 ≤ z.ev.ball.how ∧ 0 ≤ z.ev.ball.src
theorem ent_el (n : Nat) (cs : List Value) (y : DataW H × List MemPlace) (h : DataW.trod tok Tryz.prog w base spare held n 40 cs = some y) : ∃ e : Ent, cs = entE e ∧ szA e := by
  have hC : Tryz.prog.cellsOf 40 = 21 := by kernel_rfl
  obtain ⟨xs, m, hx, _, hlen, hxl, hfl⟩ := DataW.trod_struct Tryz.underlying40 h
  rw [hC] at hlen
  match cs, hlen, hfl with
  | [i0, a0, a1, a2, a3, a4, a5, a6, a7, a8, a9, a10, a11, a12, a13, a14, a15, a16, a17, a18, s0], _, hfl =>
    match xs, hxl with
    | [p0, p1, p2], _ =>
      have f0 := hfl 0 _ rfl
      have f1 := hfl 1 _ rfl
      have f2 := hfl 2 _ rfl
      simp only [List.getElem?_cons_zero, List.getElem?_cons_succ] at f0 f1 f2
      obtain ⟨x0, e0, _, w0⟩ := DataW.trod_int Tryz.underlying2 f0
      obtain ⟨z, e1, hz1, hz2⟩ := ev_el _ _ _ f1
      obtain ⟨x2, e2, _, s2⟩ := DataW.trod_string Tryz.underlying9 f2
      injection e0 with e0
      injection e2 with e2
      subst e0 e2
      refine ⟨⟨x0, z, x2⟩, ?_, by unfold szA; unfold maxLen at s2; exact ⟨by show x2.size ≤ _; omega, hz1, hz2⟩⟩
      have e1 : [a0, a1, a2, a3, a4, a5, a6, a7, a8, a9, a10, a11, a12, a13, a14, a15, a16, a17, a18] = evE z := e1
      unfold entE
      rw [← e1]
      rfl
theorem open_entries {v : Value} {d : DataW H} {p : List MemPlace} {r : Reach} {b0 : Nat} (hv : Value.okWide Tryz.prog w r b0 22 v) (h : DataW.Trod tok Tryz.prog w base spare held 22 v d p) :
    ∃ A c l, v = .slice A l.length c ∧ l.length ≤ c ∧ c ≤ maxLen ∧ Rd entE 21 w w.heap.size A l ∧ ∀ z ∈ l, szA z := by
  obtain ⟨a0, len, cap, rfl⟩ := okWide_slice Tryz.underlying22 hv
  obtain ⟨fuel, hf⟩ := h
  exact open_listQ (enc := entE) (Q := szA) (show szA ⟨0, zeroE, ByteArray.empty⟩ by unfold szA; decide) Tryz.underlying22 (by kernel_rfl) (by decide) entE_len ent_el hf
end
end Go.Proofs.YtdbiihfoafoljaaGreatDoor
