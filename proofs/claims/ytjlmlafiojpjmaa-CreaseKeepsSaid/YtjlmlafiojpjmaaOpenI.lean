/-
  Chapter 12: opening the state of an innings, with any lists.
-/
import Derived.Test.YtjlmlafiojpjmaaRows
import Derived.Test.YtjlmlafiojpjmaaOpenC
import Derived.Test.YtjlmlafiojpjmaaCrW
set_option linter.unusedSimpArgs false
set_option linter.unusedVariables false
namespace Go.Proofs.Ytjlmlafiojpjmaa
open Go.RowKit Go.ChangeShapes Go.WideShapes Go.ChangeAt Go.Deep
set_option maxRecDepth 100000
set_option maxHeartbeats 2000000
section
variable {H : Type} {tok : TypeId × Value → H} {w : World} {base : Nat} {spare : Nat → Bool} {held : Bool}
/-- A slice of elements of one cell. -/
theorem open_lst {α : Type} [Inhabited α] {enc : α → Value} {t e : TypeId} {fuel : Nat} {v : Value} {x : DataW H × List MemPlace} (ht : Try.prog.underlying t = some (.slice e)) (hC : Try.prog.cellsOf e = 1)
    (hel : ∀ n cs y, DataW.trod tok Try.prog w base spare held n e cs = some y → ∃ z : α, cs = [enc z]) (h : DataW.trod tok Try.prog w base spare held fuel t [v] = some x) :
    ∃ (A : Option Addr) (c : Nat) (l : List α), v = .slice A l.length c ∧ l.length ≤ c ∧ c ≤ maxLen ∧ Lst w v (l.map enc) := by
  have h0 := h
  obtain ⟨A, c, l, rfl, h1, h2, h3⟩ := open_list (enc := fun z => [enc z]) (size := 1) ht hC (by decide) (fun _ => rfl) hel h
  refine ⟨A, c, l, rfl, h1, h2, ?_⟩
  cases l with
  | nil =>
    rcases open_slice ht h0 with ⟨hcs, _⟩ | ⟨a, len, cap, m, n, D, Pl, hcs, _⟩
    · injection hcs with hcs _
      exact .inl ⟨hcs, rfl⟩
    · injection hcs with hcs _
      injection hcs with e1 e2 e3
      subst e1
      exact .inr (.inr ⟨a, c, rfl, rfl⟩)
  | cons z r =>
    obtain ⟨b, off, e1, hb, hc⟩ := h3 0 z rfl
    subst e1
    refine .inr (.inl ⟨b, off, c, by simp, by simpa using h1, hb, fun j u hj => ?_⟩)
    rw [List.getElem?_map] at hj
    cases hz : (z :: r)[j]? with
    | none => rw [hz] at hj; cases hj
    | some y =>
      rw [hz] at hj
      injection hj with hj
      subst hj
      obtain ⟨b2, off2, e2, _, hc2⟩ := h3 j y hz
      injection e2 with e2
      injection e2 with e3 e4 _
      subst e3 e4
      have := hc2 0 (enc y) rfl
      simpa using this
theorem st_el (n : Nat) (cs : List Value) (y : DataW H × List MemPlace) (h : DataW.trod tok Try.prog w base spare held n 50 cs = some y) : ∃ z : Int, cs = [.int .u8 z] := by
  obtain ⟨x0, e0, _, _⟩ := DataW.trod_int Try.underlying50 h
  exact ⟨x0, e0⟩
theorem in_el (n : Nat) (cs : List Value) (y : DataW H × List MemPlace) (h : DataW.trod tok Try.prog w base spare held n 3 cs = some y) : ∃ z : Int, cs = [.int .i64 z] := by
  obtain ⟨x0, e0, _, _⟩ := DataW.trod_int Try.underlying3 h
  exact ⟨x0, e0⟩
theorem bo_el (n : Nat) (cs : List Value) (y : DataW H × List MemPlace) (h : DataW.trod tok Try.prog w base spare held n 4 cs = some y) : ∃ z : Bool, cs = [.bool z] := by
  obtain ⟨x0, e0, _⟩ := DataW.trod_bool Try.underlying4 h
  exact ⟨x0, e0⟩
theorem ex_el (n : Nat) (cs : List Value) (y : DataW H × List MemPlace) (h : DataW.trod tok Try.prog w base spare held n 25 cs = some y) : ∃ e0 e1 e2 e3 e4 : Int, cs = [.int .i64 e0, .int .i64 e1, .int .i64 e2, .int .i64 e3, .int .i64 e4] := by
  obtain ⟨xs, m, rfl, _, hlen, hxl, hf⟩ := DataW.trod_struct Try.underlying25 h
  have hC : Try.prog.cellsOf 25 = 5 := by kernel_rfl
  rw [hC] at hlen
  match cs, hlen with
  | [a0, a1, a2, a3, a4], _ =>
    match xs, hxl with
    | [p0, p1, p2, p3, p4], _ =>
      have f0 := hf 0 _ rfl
      have f1 := hf 1 _ rfl
      have f2 := hf 2 _ rfl
      have f3 := hf 3 _ rfl
      have f4 := hf 4 _ rfl
      simp only [List.getElem?_cons_zero, List.getElem?_cons_succ] at f0 f1 f2 f3 f4
      obtain ⟨x0, e0, _, w0⟩ := DataW.trod_int Try.underlying3 f0
      obtain ⟨x1, e1, _, w1⟩ := DataW.trod_int Try.underlying3 f1
      obtain ⟨x2, e2, _, w2⟩ := DataW.trod_int Try.underlying3 f2
      obtain ⟨x3, e3, _, w3⟩ := DataW.trod_int Try.underlying3 f3
      obtain ⟨x4, e4, _, w4⟩ := DataW.trod_int Try.underlying3 f4
      injection e0 with e0
      injection e1 with e1
      injection e2 with e2
      injection e3 with e3
      injection e4 with e4
      subst e0 e1 e2 e3 e4
      exact ⟨x0, x1, x2, x3, x4, rfl⟩
theorem two_el (n : Nat) (cs : List Value) (y : DataW H × List MemPlace) (h : DataW.trod tok Try.prog w base spare held n 29 cs = some y) : ∃ z0 z1 : Int, cs = [.int .i64 z0, .int .i64 z1] := by
  obtain ⟨xs, m, rfl, _, hlen, hxl, hf⟩ := DataW.trod_array Try.underlying29 h
  have hC : Try.prog.cellsOf 29 = 2 := by kernel_rfl
  have hE : Try.prog.cellsOf 3 = 1 := by kernel_rfl
  rw [hC] at hlen
  match cs, hlen with
  | [a0, a1], _ =>
    match xs, hxl with
    | [p0, p1], _ =>
      have f0 := hf 0 (by decide)
      have f1 := hf 1 (by decide)
      rw [hE] at f0 f1
      simp only [List.getElem?_cons_zero, List.getElem?_cons_succ] at f0 f1
      obtain ⟨x0, e0, _, _⟩ := DataW.trod_int Try.underlying3 f0
      obtain ⟨x1, e1, _, _⟩ := DataW.trod_int Try.underlying3 f1
      injection e0 with e0
      injection e1 with e1
      subst e0 e1
      exact ⟨x0, x1, rfl⟩
theorem open_inn {v : Value} {d : DataW H} {p : List MemPlace} {r : Reach} {b0 : Nat} (hv : Value.okWide Try.prog w r b0 32 v) (h : DataW.Trod tok Try.prog w base spare held 32 v d p) :
    ∃ (I : Inn) (A1 A2 A3 A4 A5 : Option Addr) (n1 n2 n3 n4 n5 c1 c2 c3 c4 c5 : Nat), v = .agg (I.cells ⟨.slice A1 n1 c1, .slice A2 n2 c2, .slice A3 n3 c3, .slice A4 n4 c4, .slice A5 n5 c5⟩).toArray ∧
      InnR w ⟨.slice A1 n1 c1, .slice A2 n2 c2, .slice A3 n3 c3, .slice A4 n4 c4, .slice A5 n5 c5⟩ I ∧ I.b.length = n1 ∧ I.bo.length = n2 ∧ I.be.length = n3 ∧ I.bd.length = n4 ∧ I.sb.length = n5 ∧
      n1 ≤ c1 ∧ n2 ≤ c2 ∧ n3 ≤ c3 ∧ n4 ≤ c4 ∧ n5 ≤ c5 ∧ c1 ≤ maxLen ∧ c2 ≤ maxLen ∧ c3 ≤ maxLen ∧ c4 ≤ maxLen ∧ c5 ≤ maxLen ∧ (-9223372036854775808 ≤ I.wk ∧ I.wk ≤ 9223372036854775807) := by
  obtain ⟨cs, rfl, hsz⟩ := okWide_struct Try.underlying32 hv
  have hC : Try.prog.cellsOf 32 = 28 := by kernel_rfl
  rw [hC] at hsz
  obtain ⟨fuel, hf⟩ := h
  obtain ⟨xs, m, hx, _, hlen, hxl, hfl⟩ := DataW.trod_struct Try.underlying32 hf
  obtain ⟨ls⟩ := cs
  have hl5 : ls.length = 28 := hsz
  match ls, hl5, hlen, hfl with
  | [a0, a1, a2, a3, a4, a5, a6, a7, a8, a9, a10, a11, a12, a13, a14, a15, a16, a17, a18, a19, a20, a21, a22, a23, a24, a25, a26, a27], _, _, hfl =>
    match xs, hxl with
    | [p0, p1, p2, p3, p4, p5, p6, p7, p8, p9, p10, p11, p12, p13, p14, p15, p16, p17, p18, p19, p20, p21, p22], _ =>
      have f0 := hfl 0 _ rfl
      have f1 := hfl 1 _ rfl
      have f2 := hfl 2 _ rfl
      have f3 := hfl 3 _ rfl
      have f4 := hfl 4 _ rfl
      have f5 := hfl 5 _ rfl
      have f6 := hfl 6 _ rfl
      have f7 := hfl 7 _ rfl
      have f8 := hfl 8 _ rfl
      have f9 := hfl 9 _ rfl
      have f10 := hfl 10 _ rfl
      have f11 := hfl 11 _ rfl
      have f12 := hfl 12 _ rfl
      have f13 := hfl 13 _ rfl
      have f14 := hfl 14 _ rfl
      have f15 := hfl 15 _ rfl
      have f16 := hfl 16 _ rfl
      have f17 := hfl 17 _ rfl
      have f18 := hfl 18 _ rfl
      have f19 := hfl 19 _ rfl
      have f20 := hfl 20 _ rfl
      have f21 := hfl 21 _ rfl
      have f22 := hfl 22 _ rfl
      simp only [List.getElem?_cons_zero, List.getElem?_cons_succ] at f0 f1 f2 f3 f4 f5 f6 f7 f8 f9 f10 f11 f12 f13 f14 f15 f16 f17 f18 f19 f20 f21 f22
      obtain ⟨x0, e0, _, w0⟩ := DataW.trod_int Try.underlying3 f0
      injection e0 with e0
      obtain ⟨x1, e1, _, w1⟩ := DataW.trod_int Try.underlying3 f1
      injection e1 with e1
      obtain ⟨x2, e2, _, w2⟩ := DataW.trod_int Try.underlying3 f2
      injection e2 with e2
      obtain ⟨x3, e3, _, w3⟩ := DataW.trod_int Try.underlying3 f3
      injection e3 with e3
      obtain ⟨x4, e4, _, w4⟩ := DataW.trod_int Try.underlying3 f4
      injection e4 with e4
      obtain ⟨y0, y1, y2, y3, y4, ey⟩ := ex_el _ _ _ f5
      have ey : [a5, a6, a7, a8, a9] = [.int .i64 y0, .int .i64 y1, .int .i64 y2, .int .i64 y3, .int .i64 y4] := ey
      injection ey with g0 ey
      injection ey with g1 ey
      injection ey with g2 ey
      injection ey with g3 ey
      injection ey with g4 _
      obtain ⟨x6, e6, _, w6⟩ := DataW.trod_int Try.underlying3 f6
      injection e6 with e6
      obtain ⟨x7, e7, _, w7⟩ := DataW.trod_int Try.underlying3 f7
      injection e7 with e7
      obtain ⟨x8, e8, _, w8⟩ := DataW.trod_int Try.underlying3 f8
      injection e8 with e8
      obtain ⟨x9, e9, _, w9⟩ := DataW.trod_int Try.underlying3 f9
      injection e9 with e9
      obtain ⟨A10, c10, l10, e10, hl10, hm10, hr10⟩ := open_lst (enc := Value.int .u8) Try.underlying26 (by kernel_rfl) st_el f10
      obtain ⟨x11, e11, _, w11⟩ := DataW.trod_int Try.underlying3 f11
      injection e11 with e11
      obtain ⟨A12, c12, l12, e12, hl12, hm12, hr12⟩ := open_lst (enc := Value.int .i64) Try.underlying27 (by kernel_rfl) in_el f12
      obtain ⟨A13, c13, l13, e13, hl13, hm13, hr13⟩ := open_lst (enc := Value.int .i64) Try.underlying27 (by kernel_rfl) in_el f13
      obtain ⟨x14, e14, _⟩ := DataW.trod_bool Try.underlying4 f14
      injection e14 with e14
      obtain ⟨A15, c15, l15, e15, hl15, hm15, hr15⟩ := open_lst (enc := Value.int .i64) Try.underlying27 (by kernel_rfl) in_el f15
      obtain ⟨x16, e16, _⟩ := DataW.trod_bool Try.underlying4 f16
      injection e16 with e16
      obtain ⟨x17, e17, _, w17⟩ := DataW.trod_int Try.underlying3 f17
      injection e17 with e17
      obtain ⟨x18, e18, _, w18⟩ := DataW.trod_int Try.underlying3 f18
      injection e18 with e18
      obtain ⟨x19, e19, _, w19⟩ := DataW.trod_int Try.underlying3 f19
      injection e19 with e19
      obtain ⟨A20, c20, l20, e20, hl20, hm20, hr20⟩ := open_lst (enc := Value.bool) Try.underlying28 (by kernel_rfl) bo_el f20
      obtain ⟨z0, z1, ez⟩ := two_el _ _ _ f21
      have ez : [a25, a26] = [.int .i64 z0, .int .i64 z1] := ez
      injection ez with g5 ez
      injection ez with g6 _
      obtain ⟨x22, e22, _, w22⟩ := DataW.trod_int Try.underlying30 f22
      injection e22 with e22
      subst e0 e1 e2 e3 e4 e6 e7 e8 e9 e10 e11 e12 e13 e14 e15 e16 e17 e18 e19 e20 e22 g0 g1 g2 g3 g4 g5 g6
      exact ⟨⟨⟨x0, x1, x2, x3, y0, y1, y2, y3, y4, x6, x7, x11, x17, x18, x19, z0, z1, x22, x14, x16⟩, x4, x8, x9, l10, l12, l13, l15, l20⟩, A10, A12, A13, A15, A20, l10.length, l12.length, l13.length, l15.length, l20.length, c10, c12, c13, c15, c20, rfl, ⟨hr10, hr12, hr13, hr15, hr20⟩, rfl, rfl, rfl, rfl, rfl, hl10, hl12, hl13, hl15, hl20, hm10, hm12, hm13, hm15, hm20, i64_of_wf w4⟩
theorem open_act {v : Value} {d : DataW H} {p : List MemPlace} {r : Reach} {b0 : Nat} (hv : Value.okWide Try.prog w r b0 46 v) (h : DataW.Trod tok Try.prog w base spare held 46 v d p) :
    ∃ a : Ac, v = .agg (acC a).toArray ∧ (0 ≤ a.kind ∧ a.kind ≤ 255) := by
  obtain ⟨cs, rfl, hsz⟩ := okWide_struct Try.underlying46 hv
  obtain ⟨fuel, hf⟩ := h
  obtain ⟨a, ha, hk⟩ := act_el _ _ _ hf
  obtain ⟨ls⟩ := cs
  have ha : ls = acC a := ha
  subst ha
  exact ⟨a, rfl, hk⟩
end
end Go.Proofs.Ytjlmlafiojpjmaa
