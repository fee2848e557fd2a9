/-
  append of a whole list onto one of the call's own; slices.Grow of nil; slices.Concat of entries.
-/
import Derived.Test.YtleegellkeedhaaAddC54
import Derived.Test.YtleegellkeedhaaApp
import Derived.Test.YtleegellkeedhaaStr
import Derived.Lib.AppendZeros
namespace Go.Proofs.Ytleegellkeedhaa
open Go.RowKit
set_option maxRecDepth 100000
set_option maxHeartbeats 1000000
theorem flat_inv {α : Type} {enc : α → List Value} {size : Nat} (hs : ∀ x, (enc x).length = size) : ∀ (l : List α) (j : Nat) (u : Value), (l.flatMap enc)[j]? = some u → ∃ k x r, l[k]? = some x ∧ (enc x)[r]? = some u ∧ j = k * size + r
  | [], j, u, h => by simp at h
  | x :: l, j, u, h => by
    rw [List.flatMap_cons] at h
    by_cases hj : j < (enc x).length
    · rw [List.getElem?_append_left hj] at h
      exact ⟨0, x, j, rfl, h, by simp⟩
    · rw [List.getElem?_append_right (by omega), hs] at h
      obtain ⟨k, y, r, h1, h2, h3⟩ := flat_inv hs l _ _ h
      exact ⟨k + 1, y, r, h1, h2, by rw [Nat.succ_mul]; have := hs x; omega⟩
theorem run_append_none {P : Program} {w : World} {t ty e : TypeId} {i : TypeInfo} (ht : P.underlying t = some (.slice e)) (hi : P.info? e = some i) (g n c c2 : Nat) (hn : n ≤ c) :
    (Builtin.append_ #[t, t] ty #[.slice (some ⟨g, 0, none⟩) n c, .slice none 0 c2]).run P w = .ok (.slice (some ⟨g, 0, none⟩) n c) w := by
  simp [Builtin.append_, run_underlying ht, sizeOf, typeInfo, hi, Builtin.lenOf, Builtin.firstCells, storeCells, hn, Result.andThen]
theorem wpList_appL {α : Type} {P : Program} {enc : α → List Value} {size bytes : Nat} {t e : TypeId} (E : ElemOf P enc size bytes t e) (w : World) {ops : Array Oper} {rest : List Oper} {o : Oper} {a : Act} {Q : Exit → Act → World → Prop} (hgd : o.guard = none) (s x : Operand)
    (ho : o.op = .call { callee := .builtin .append, args := #[s, x], argTypes := #[t, t] }) (base : Nat) (g c : Nat) (l : List α) (hs : a.eval s = .slice (some ⟨g, 0, none⟩) l.length c) (hown : OwnL enc size e base w (.slice (some ⟨g, 0, none⟩) l.length c) l)
    (A2 : Option Addr) (c2 : Nat) (l2 : List α) (hx : a.eval x = .slice A2 l2.length c2) (hr : Rd enc size w w.heap.size A2 l2) (h63 : l.length + l2.length ≤ maxLen) (hbytes : (l.length + l2.length) * bytes ≤ 140737488355328) (hbase : base ≤ w.heap.size)
    (h : ∀ g' cap w', OwnL enc size e base w' (.slice (some ⟨g', 0, none⟩) (l ++ l2).length cap) (l ++ l2) → w.grownBy w' (some g) → wpList P ops Q rest (a.put o.dst (.slice (some ⟨g', 0, none⟩) (l ++ l2).length cap)) w') : wpList P ops Q (o :: rest) a w := by
  obtain ⟨z, i, hi, h0, h1, h2, hzs⟩ := E.info
  have hc := own_cap hown
  cases l2 with
  | nil =>
    rw [List.append_nil] at h
    cases A2 with
    | none => exact Lib.wpList_append_run w hgd s x t t ho _ _ hs hx _ _ (run_append_none E.ty hi g l.length c c2 hc) (h g c w hown ⟨rfl, rfl, rfl, Nat.le_refl _, fun _ _ _ => rfl⟩)
    | some ad =>
      obtain ⟨w', hrun, ho2, hg2⟩ := run_append_fits (P := P) w base t o.type e i size E.ty hi h1 g l.length c _ hown ad 0 c2 [] (by simp) (fun j u hu => by simp at hu) (fun u hu => by cases hu) (by omega)
      exact Lib.wpList_append_run w hgd s x t t ho _ _ hs hx _ _ hrun (h g c w' (by simpa [OwnL] using ho2) hg2)
  | cons y l3 =>
    obtain ⟨b, off, rfl, _, _⟩ := hr 0 y rfl
    refine wpList_app w hgd s x t ho base e i z size bytes E.ty hi h0 h1 h2 hzs E.pos _ _ _ hs hown ⟨b, off, none⟩ (y :: l3).length c2 ((y :: l3).flatMap enc) hx (by rw [flat_length E.len]) (fun j u hu => ?_) (fun u hu => ?_) (by simp) h63 hbytes hbase ?_
    · obtain ⟨k, x', r, h3, h4, rfl⟩ := flat_inv E.len _ _ _ hu
      obtain ⟨b', off', e', _, hcl⟩ := hr k x' h3
      injection e' with e'
      injection e' with e1 e2 _
      subst e1 e2
      have := hcl r u h4
      simpa [Addr.add_lit, Nat.add_assoc] using this
    · obtain ⟨x', _, hu2⟩ := List.mem_flatMap.1 hu
      exact E.one x' u hu2
    · intro g' cap w' ha
      have ho3 := ha.own
      refine (show wpList P ops Q rest (a.put o.dst (.slice (some ⟨g', 0, none⟩) (l.length + (y :: l3).length) cap)) w' from ?_)
      rw [← List.length_append]
      exact h g' cap w' (by unfold OwnL; rw [List.length_append, List.flatMap_append]; exact ho3) ha.grown
theorem Try.infoTr : (Try.prog.info? 38).map (fun i => (i.zero, i.size, i.bytes)) = some (some (.agg #[.string ⟨#[]⟩, .string ⟨#[]⟩, .int .i64 0]), 3, 40) := by kernel_rfl
theorem Try.trElem : ElemOf Try.prog trE 3 40 23 38 := .mk' Try.infoTr rfl Try.underlying23 (by decide) trE_len (fun x u hu => by simp [trE] at hu; rcases hu with rfl | rfl | rfl <;> rfl)
theorem grow_f (n : Nat) (w : World) (h1 : 1 ≤ n) (hn : n ≤ 100000) :
    Calls Try.prog 48 #[.slice none 0 0, .int .i64 n] w fun e w' => ∃ g cap, e = .returned (.slice (some ⟨g, 0, none⟩) 0 cap) ∧ OwnL trE 3 38 w.heap.size w' (.slice (some ⟨g, 0, none⟩) ([] : List Tr).length cap) [] ∧ Below w.heap.size w w' := by
  obtain ⟨i, hi, h0, hs, hb⟩ := info_parts Try.infoTr
  have hrz : ∀ ty, (Builtin.append_ #[23, 3] ty #[.slice none 0 0, .int .i64 (n : Int)]).run Try.prog w = _ := fun ty =>
    Lib.run_append_nil_zeros w 23 3 ty 38 i _ .i64 .i64 Try.underlying23 Try.underlying3 hi h0 n (by omega) (by rw [hs]; decide) (by omega) (by rw [hb]; omega)
  have hG := grownCap_ge w n 0 38
  have hG2 := grownCap_le_maxLen w n 0 38 (by unfold maxLen; omega)
  obtain ⟨G, hGe⟩ : ∃ G, G = grownCap w n 0 38 := ⟨_, rfl⟩
  rw [← hGe] at hG hG2
  simp only [← hGe] at hrz
  have hp : (0 : Int) < (n : Int) := by omega
  clear hGe
  go_enter Try.func48, Try.ntmps48
  go_wp2_with (at_builtin; refine Lib.wpList_append_run _ rfl _ _ _ _ rfl _ _ rfl rfl _ _ (hrz _) ?_)
  go_ret
  refine ⟨w.heap.size, G, rfl, ⟨rfl, .inr ⟨w.heap.size, G, _, rfl, Nat.le_refl _, heap_alloc_new w _, by simp, hG2, ?_, by simp⟩⟩, (cur_new w _).drew⟩
  simp [size_zeroCells]
  omega
def sliceAt (w : World) (s : Nat) (ls : List (List Tr)) : Prop := ∀ k l, ls[k]? = some l → ∃ A c, w.cell? ⟨s, k, none⟩ = some (.slice A l.length c) ∧ Rd trE 3 w w.heap.size A l
theorem sliceAt.to {w w' : World} {s : Nat} {ls : List (List Tr)} (h : sliceAt w s ls) (hs : s < w.heap.size) (hb : Below w.heap.size w w') : sliceAt w' s ls := by
  intro k l hk
  obtain ⟨A, c, h1, h2⟩ := h k l hk
  exact ⟨A, c, (hb.cell (p := ⟨s, k, none⟩) hs).trans h1, h2.to hb⟩
def fl (ls : List (List Tr)) (k : Nat) : List Tr := (ls.take k).flatten
theorem fl_step {ls : List (List Tr)} {k : Nat} {l : List Tr} (h : ls[k]? = some l) : fl ls (k + 1) = fl ls k ++ l := by
  unfold fl
  rw [List.take_add_one, h]
  simp
theorem fl_le (ls : List (List Tr)) (k : Nat) : (fl ls k).length ≤ ls.flatten.length := by
  unfold fl
  conv => rhs; rw [← List.take_append_drop k ls, List.flatten_append, List.length_append]
  omega
def Cc1 (w : World) (ls : List (List Tr)) (z i : Value) (wr : World) : Prop := ∃ (k : Nat) (n : Nat), k ≤ ls.length ∧ i = .int .i64 k ∧ z = .int .i64 n ∧ n = (fl ls k).length ∧ Below w.heap.size w wr
def Cc2 (w : World) (B : Nat) (ls : List (List Tr)) (o i : Value) (wr : World) : Prop := ∃ (k : Nat) (L : List Tr) (g c : Nat), k ≤ ls.length ∧ i = .int .i64 k ∧ L = fl ls k ∧ o = .slice (some ⟨g, 0, none⟩) L.length c ∧ OwnL trE 3 38 B wr (.slice (some ⟨g, 0, none⟩) L.length c) L ∧ Below w.heap.size w wr
theorem concat_f (s : Nat) (ls : List (List Tr)) (n : Nat) (w : World) (hn : ls.length = n) (hn3 : n ≤ 100) (hs : s < w.heap.size) (hl1 : 1 ≤ ls.flatten.length) (hl : ls.flatten.length ≤ 10000) (hat : sliceAt w s ls) :
    Calls Try.prog 39 #[.slice (some ⟨s, 0, none⟩) n n] w fun e w' => ∃ g c, e = .returned (.slice (some ⟨g, 0, none⟩) ls.flatten.length c) ∧ OwnL trE 3 38 w.heap.size w' (.slice (some ⟨g, 0, none⟩) ls.flatten.length c) ls.flatten ∧ Below w.heap.size w w' := by
  have HAT := Lib.hid hat
  have HN := Lib.hid hn
  have hlen := Lib.hid (fun k => fl_le ls k)
  clear hat hn
  go_enter Try.func39, Try.ntmps39
  go_wp2_with fail
  go_loopw [3, 11] (Cc1 w ls) (fun _ i _ => n - (intOf i).toNat)
  case atStart => exact ⟨0, 0, by omega, rfl, rfl, rfl, Below.refl _ _⟩
  case round =>
    obtain ⟨k, m, hk, rfl, rfl, hm, hB⟩ := hrel
    have HM := Lib.hid hm
    have HB := Lib.hid hB
    have hm2 : m ≤ 10000 := by rw [hm]; exact Nat.le_trans (hlen.out k) hl
    have hsl : s < wr.heap.size := by have := hB.size; omega
    clear hm hB
    by_cases hlt : k < n
    · obtain ⟨l, hl3⟩ : ∃ l, ls[k]? = some l := ⟨_, List.getElem?_eq_getElem (by have := HN.out; omega)⟩
      obtain ⟨A, c, c0, hr⟩ := (HAT.out.to hs HB.out) k l hl3
      have HF := Lib.hid (show m + l.length = (fl ls (k + 1)).length by rw [fl_step hl3, List.length_append, ← HM.out])
      have hm3 : m + l.length ≤ 10000 := by rw [HF.out]; exact Nat.le_trans (hlen.out _) hl
      clear hl3 hr
      go_wp2_with fail
      go_roundw
      case rel => exact ⟨k + 1, m + l.length, by have := HN.out; omega, by simp, by simp, HF.out, HB.out⟩
      case measure => simp [intOf]; omega
    · have hkn : ls.length ≤ k := by have := HN.out; omega
      have HT := Lib.hid (show m = ls.flatten.length by rw [HM.out]; unfold fl; rw [List.take_of_length_le hkn])
      have hm1 : 1 ≤ m := by rw [HT.out]; exact hl1
      go_wp2_with (go_at_call 48; refine (grow_f m _ hm1 (by omega)).mono ?_; rintro e w4 ⟨g, cap, rfl, hown, hb4⟩; have HO := Lib.hid hown; have HB4 := Lib.hid (cur_step1 HB.out hb4); have hBB := hb4.size; clear hown hb4)
      obtain ⟨B, hBe⟩ : ∃ B, B = wr.heap.size := ⟨_, rfl⟩
      have hBw : w.heap.size ≤ B := by rw [hBe]; exact HB.out.size
      rw [← hBe] at HO hBB
      have HBQ := Lib.hid hBB
      clear hBe HB hsl hm1 hBB
      go_loopw [6, 27] (Cc2 w B ls) (fun _ i _ => n - (intOf i).toNat)
      case atStart => exact ⟨0, [], g, cap, by omega, rfl, rfl, rfl, HO.out, HB4.out⟩
      case round =>
        clear HO HB4 HBQ
        obtain ⟨q, L, g2, c2, hq, rfl, hL, rfl, hown, hB⟩ := hrel
        have HL := Lib.hid hL
        have HO := Lib.hid hown
        have HB := Lib.hid hB
        have hL2 : L.length ≤ 10000 := by rw [hL]; exact Nat.le_trans (hlen.out q) hl
        have hsl : s < wr.heap.size := by have := hB.size; omega
        have hgr := own_range hown g2 rfl
        clear hL hown hB
        by_cases hlt2 : q < n
        · obtain ⟨l, hl3⟩ : ∃ l, ls[q]? = some l := ⟨_, List.getElem?_eq_getElem (by have := HN.out; omega)⟩
          obtain ⟨A, c, c0, hr⟩ := (HAT.out.to hs HB.out) q l hl3
          have HF := Lib.hid (show L ++ l = fl ls (q + 1) by rw [fl_step hl3, ← HL.out])
          have hm3 : L.length + l.length ≤ 10000 := by rw [← List.length_append, HF.out]; exact Nat.le_trans (hlen.out _) hl
          have HR := Lib.hid hr
          clear hl3 hr
          go_wp2_with (at_builtin; refine wpList_appL Try.trElem _ rfl (.tmp 31) (.tmp 32) rfl B g2 c2 L rfl HO.out A c l rfl HR.out ?o1 ?o2 ?o3 ?_)
          case o1 => unfold maxLen; omega
          case o2 => omega
          case o3 => omega
          intro g3 cap3 w6 ho6 hg6
          have HO6 := Lib.hid ho6
          have HB6 := Lib.hid (HB.out.grown hg6 HB.out.size (by intro b hb; injection hb with hb; omega))
          clear ho6 hg6
          go_wp2_with fail
          go_roundw
          case rel => exact ⟨q + 1, L ++ l, g3, cap3, by have := HN.out; omega, by simp, HF.out, by simp, by rw [List.length_append]; exact HO6.out, HB6.out⟩
          case measure => simp [intOf]; omega
        · have hkn2 : ls.length ≤ q := by have := HN.out; omega
          have hLf : L = ls.flatten := by rw [HL.out]; unfold fl; rw [List.take_of_length_le hkn2]
          have HLF := Lib.hid hLf
          clear hLf
          go_wp2_with fail
          go_ret
          rw [← HLF.out]
          exact ⟨g2, c2, rfl, own_mono HO.out hBw, HB.out⟩
end Go.Proofs.Ytleegellkeedhaa
