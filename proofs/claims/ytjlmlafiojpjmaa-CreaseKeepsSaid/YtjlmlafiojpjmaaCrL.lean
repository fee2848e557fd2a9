/-
  Chapter 12: Left, with any lists.
-/
import Derived.Test.YtjlmlafiojpjmaaCrM
import Derived.Deep.DeepCutAuto
import Derived.Deep.CutBlock
import Derived.BigGuard
set_option linter.unusedSimpArgs false
set_option linter.unusedVariables false
namespace Go.Proofs.Ytjlmlafiojpjmaa
open Go.RowKit
set_option maxRecDepth 100000
set_option maxHeartbeats 4000000
def leftL : Nat → List Int → List Int
  | _, [] => []
  | k, s :: r => if s = 0 ∨ s = 3 then ((k : Int) + 1) :: leftL (k + 1) r else leftL (k + 1) r
theorem leftL_snoc : ∀ (l : List Int) (k : Nat) (x : Int), leftL k (l ++ [x]) = leftL k l ++ (if x = 0 ∨ x = 3 then [((k + l.length : Nat) : Int) + 1] else [])
  | [], k, x => by simp [leftL]
  | s :: r, k, x => by
    have ih := leftL_snoc r (k + 1) x
    show (if s = 0 ∨ s = 3 then ((k : Int) + 1) :: leftL (k + 1) (r ++ [x]) else leftL (k + 1) (r ++ [x])) = (if s = 0 ∨ s = 3 then ((k : Int) + 1) :: leftL (k + 1) r else leftL (k + 1) r) ++ _
    rw [ih, List.length_cons, show k + 1 + r.length = k + (r.length + 1) by omega]
    split <;> simp
theorem leftL_len : ∀ (l : List Int) (k : Nat), (leftL k l).length ≤ l.length
  | [], _ => by simp [leftL]
  | s :: r, k => by
    have ih := leftL_len r (k + 1)
    unfold leftL
    split <;> simp <;> omega
def leftS (I : Inn) : List Int := leftL 0 I.b
def inE (x : Int) : List Value := [.int .i64 x]
theorem Try.intElem : ElemOf Try.prog inE 1 8 27 3 := .mk' (z := .int .i64 0) (by kernel_rfl) rfl Try.underlying27 (by decide) (fun _ => rfl) (fun x u hu => by simp [inE] at hu; subst hu; rfl)
def LeR (I : Inn) (w1 : World) (lv iv : Value) (wr : World) : Prop := ∃ (k : Nat) (A : Option Addr) (c : Nat), k ≤ I.b.length ∧ iv = .int .i64 k ∧ lv = .slice A (leftL 0 (I.b.take k)).length c ∧ OwnL inE 1 3 w1.heap.size wr (.slice A (leftL 0 (I.b.take k)).length c) (leftL 0 (I.b.take k)) ∧ Below w1.heap.size w1 wr
theorem left_p (I : Inn) (V : Ls) (w : World) (hl : I.Few) (hV : InnR w V I) :
    Calls Try.prog 35 #[.agg (I.cells V).toArray] w fun e w' => ∃ A c, e = .returned (.slice A (leftS I).length c) ∧ OwnL inE 1 3 w.heap.size w' (.slice A (leftS I).length c) (leftS I) ∧ Below w.heap.size w w' := by
  obtain ⟨A0, c0, hf, hc0⟩ := hV.b.form
  rw [stC_len] at hf hc0
  have hn : I.b.length ≤ 1000 := hl.b
  have HV := Lib.hid hV
  obtain ⟨w0, hw0⟩ : ∃ y, w.alloc (.cells (I.cells V).toArray 32) = y := ⟨_, rfl⟩
  have HB := Lib.hid (show Below w.heap.size w w0 by rw [← hw0]; exact cur_new _ _)
  have hi : Blk w0 w.heap.size 32 (I.cells V) := by rw [← hw0]; exact Blk.new _ _ _
  have c14 : w0.cell? ⟨w.heap.size, 14, none⟩ = some (.slice A0 I.b.length c0) := by rw [← hf]; exact hi.cell 14
  have S0 := Lib.hid hw0
  clear hl hV hf hw0 hi
  go_enter Try.func35, Try.ntmps35
  go_wp2_with (rw [S0.out])
  go_loopw [3, 9] (LeR I w0) (fun _ i _ => I.b.length - (intOf i).toNat)
  case atStart => exact ⟨0, none, 0, by omega, rfl, rfl, World.ownsRow_nil _ _ _ _, Below.refl _ _⟩
  case round =>
    obtain ⟨k, A, c, hk, rfl, rfl, ho, hb⟩ := hrel
    have HO := Lib.hid ho
    have HBR := Lib.hid hb
    clear ho hb
    by_cases hkl : k < I.b.length
    · obtain ⟨b, off, c1, hVb, hcc, hbl, hcell⟩ := HV.out.bat hkl
      rw [show V.b = .slice A0 I.b.length c0 by
        have h1 := S0.out
        have h2 : w0.cell? ⟨w.heap.size, 14, none⟩ = some V.b := by rw [← h1]; exact (Blk.new w 32 (I.cells V)).cell 14
        rw [c14] at h2
        injection h2 with h2
        exact h2.symm] at hVb
      injection hVb with h1 _ h3
      subst h1 h3
      obtain ⟨x, hx⟩ : ∃ x, bAt I k = x := ⟨_, rfl⟩
      rw [hx] at hcell
      have hxk : I.b[k]? = some x := by rw [← hx]; unfold bAt; rw [List.getD_eq_getElem?_getD, List.getElem?_eq_getElem hkl]; rfl
      have d1 : wr.cell? ⟨b, off + k, none⟩ = some (.int .u8 x) := ((HB.out.trans (HBR.out.mono HB.out.size)).cell (p := ⟨b, off + k, none⟩) hbl).trans hcell
      obtain ⟨L, hL⟩ : ∃ L, leftL 0 (I.b.take k) = L := ⟨_, rfl⟩
      rw [hL] at HO ⊢
      have hLl : L.length ≤ 1000 := by rw [← hL]; have := leftL_len (I.b.take k) 0; rw [List.length_take] at this; omega
      have HN := Lib.hid (show leftL 0 (I.b.take (k + 1)) = L ++ (if x = 0 ∨ x = 3 then [(k : Int) + 1] else []) by
        rw [List.take_add_one, hxk]
        show leftL 0 (I.b.take k ++ [x]) = _
        rw [leftL_snoc, hL, List.length_take, show 0 + min k I.b.length = k by omega])
      clear hcell hx hxk hL
      by_cases h03 : x = 0 ∨ x = 3
      · have HN2 := Lib.hid (show leftL 0 (I.b.take (k + 1)) = L ++ [(k : Int) + 1] by rw [HN.out, if_pos h03])
        have hd3 : (x == 0) = false → (x == 3) = true := by intro h; rcases h03 with h | h <;> simp_all
        have HD3 := Lib.hid hd3
        clear h03 hd3
        have tail : ∀ (g cap : Nat) (w9 : World), World.ownsRow w9 w0.heap.size 3 1 (.slice (some ⟨g, 0, none⟩) (L.length + 1) cap) (L.length + 1) (L.flatMap inE ++ inE ((k : Int) + 1)) → Below w0.heap.size w0 w9 → LeR I w0 (.slice (some ⟨g, 0, none⟩) (L.length + 1) cap) (.int .i64 ((k + 1 : Nat) : Int)) w9 := by
          intro g cap w9 h1 h2
          refine ⟨k + 1, some ⟨g, 0, none⟩, cap, by omega, rfl, ?_, ?_, h2⟩
          · rw [HN2.out, List.length_append]; rfl
          · rw [HN2.out, List.length_append]; exact own_snoc h1
        have HT := Lib.hid tail
        clear tail
        cases h0 : (x == 0)
        · have g3 := HD3.out h0
          go_wp2_with (refine wpList_app1 Try.intElem _ rfl _ _ rfl w0.heap.size A c L rfl ?o1 ((k : Int) + 1) wr.heap.size 1 rfl ?o2 ?o3 ?o4 ?o5 ?_)
          case o1 => exact World.ownsRow.alloc HO.out _
          case o2 => first | exact heap_alloc_new _ _ | exact (Array.getElem?_eq_some_iff.1 (heap_alloc_new _ _)).2
          case o3 => unfold maxLen; omega
          case o4 => omega
          case o5 => have := HBR.out.size; first | omega | (simp; omega)
          intro g cap w9 ha
          have HA := Lib.hid ha.own
          have HB9 := Lib.hid (app1_end (f := (k : Int) + 1) (enc := inE) (l := L) HBR.out (fun k hk => (own_range HO.out k hk).1) (cur_new wr _) ha).1
          clear ha
          go_wp2_with (fail)
          go_roundw
          case rel => exact HT.out g cap _ HA.out HB9.out
          case measure => simp [intOf]; omega
        · go_wp2_with (refine wpList_app1 Try.intElem _ rfl _ _ rfl w0.heap.size A c L rfl ?o1 ((k : Int) + 1) wr.heap.size 1 rfl ?o2 ?o3 ?o4 ?o5 ?_)
          case o1 => exact World.ownsRow.alloc HO.out _
          case o2 => first | exact heap_alloc_new _ _ | exact (Array.getElem?_eq_some_iff.1 (heap_alloc_new _ _)).2
          case o3 => unfold maxLen; omega
          case o4 => omega
          case o5 => have := HBR.out.size; first | omega | (simp; omega)
          intro g cap w9 ha
          have HA := Lib.hid ha.own
          have HB9 := Lib.hid (app1_end (f := (k : Int) + 1) (enc := inE) (l := L) HBR.out (fun k hk => (own_range HO.out k hk).1) (cur_new wr _) ha).1
          clear ha
          go_wp2_with (fail)
          go_roundw
          case rel => exact HT.out g cap _ HA.out HB9.out
          case measure => simp [intOf]; omega
      · have g0 : (x == 0) = false := by simp; omega
        have g3 : (x == 3) = false := by simp; omega
        have HN2 := Lib.hid (show leftL 0 (I.b.take (k + 1)) = L by rw [HN.out, if_neg h03, List.append_nil])
        clear h03
        go_wp2_with (fail)
        go_roundw
        case rel => exact ⟨k + 1, A, c, by omega, by simp, by rw [HN2.out], by rw [HN2.out]; exact HO.out, HBR.out⟩
        case measure => simp [intOf]; omega
    · have hkn : k = I.b.length := by omega
      have HE := Lib.hid (show leftL 0 (I.b.take k) = leftS I by rw [hkn, List.take_length]; rfl)
      clear hkn
      rw [HE.out] at HO ⊢
      go_wp2_with (fail)
      go_ret
      exact ⟨A, c, rfl, own_mono HO.out HB.out.size, HB.out.trans (HBR.out.mono HB.out.size)⟩
end Go.Proofs.Ytjlmlafiojpjmaa
