/-
  Chapter 55: slices.Concat at umpires.
-/
import Derived.Test.YtckbhdokfkabfaaFew55
import Derived.Test.YtckbhdokfkabfaaAppL
import Derived.Lib.AppendZeros
set_option linter.unusedSimpArgs false
set_option linter.unusedVariables false
namespace Go.Proofs.Ytckbhdokfkabfaa
open Go.RowKit
set_option maxRecDepth 100000
set_option maxHeartbeats 4000000
theorem Try.infoUm : (Try.prog.info? 32).map (fun i => (i.zero, i.size, i.bytes)) = some (some (.agg #[.string ⟨#[]⟩, .string ⟨#[]⟩, .slice none 0 0]), 3, 56) := by kernel_rfl
theorem grow_f (n : Nat) (w : World) (h1 : 1 ≤ n) (hn : n ≤ 100000) :
    Calls Try.prog 39 #[.slice none 0 0, .int .i64 n] w fun e w' => ∃ g cap, e = .returned (.slice (some ⟨g, 0, none⟩) 0 cap) ∧ OwnL umE 3 32 w.heap.size w' (.slice (some ⟨g, 0, none⟩) ([] : List Ump).length cap) [] ∧ Below w.heap.size w w' := by
  obtain ⟨i, hi, h0, hs, hb⟩ := info_parts Try.infoUm
  have hrz : ∀ ty, (Builtin.append_ #[23, 3] ty #[.slice none 0 0, .int .i64 (n : Int)]).run Try.prog w = _ := fun ty =>
    Lib.run_append_nil_zeros w 23 3 ty 32 i _ .i64 .i64 Try.underlying23 Try.underlying3 hi h0 n (by omega) (by rw [hs]; decide) (by omega) (by rw [hb]; omega)
  have hG := grownCap_ge w n 0 32
  have hG2 := grownCap_le_maxLen w n 0 32 (by unfold maxLen; omega)
  obtain ⟨G, hGe⟩ : ∃ G, G = grownCap w n 0 32 := ⟨_, rfl⟩
  rw [← hGe] at hG hG2
  simp only [← hGe] at hrz
  have hp : (0 : Int) < (n : Int) := by omega
  clear hGe
  go_enter Try.func39, Try.ntmps39
  go_wp2_with (at_builtin; refine Lib.wpList_append_run _ rfl _ _ _ _ rfl _ _ rfl rfl _ _ (hrz _) ?_)
  go_ret
  refine ⟨w.heap.size, G, rfl, ⟨rfl, .inr ⟨w.heap.size, G, _, rfl, Nat.le_refl _, heap_alloc_new w _, by simp, hG2, ?_, by simp⟩⟩, (cur_new w _).drew⟩
  simp [size_zeroCells]
  try rw [umE_len]
  try omega
def sliceAt (w : World) (s : Nat) (ls : List (List Ump)) : Prop := ∀ k l, ls[k]? = some l → ∃ A c, w.cell? ⟨s, k, none⟩ = some (.slice A l.length c) ∧ Rd umE 3 w w.heap.size A l
theorem sliceAt.to {w w' : World} {s : Nat} {ls : List (List Ump)} (h : sliceAt w s ls) (hs : s < w.heap.size) (hb : Below w.heap.size w w') : sliceAt w' s ls := by
  intro k l hk
  obtain ⟨A, c, h1, h2⟩ := h k l hk
  exact ⟨A, c, (hb.cell (p := ⟨s, k, none⟩) hs).trans h1, h2.to hb⟩
def fl (ls : List (List Ump)) (k : Nat) : List Ump := (ls.take k).flatten
theorem fl_step {ls : List (List Ump)} {k : Nat} {l : List Ump} (h : ls[k]? = some l) : fl ls (k + 1) = fl ls k ++ l := by
  unfold fl
  rw [List.take_add_one, h]
  simp
theorem fl_le (ls : List (List Ump)) (k : Nat) : (fl ls k).length ≤ ls.flatten.length := by
  unfold fl
  conv => rhs; rw [← List.take_append_drop k ls, List.flatten_append, List.length_append]
  try omega
def Cc1 (w : World) (ls : List (List Ump)) (z i : Value) (wr : World) : Prop := ∃ (k : Nat) (n : Nat), k ≤ ls.length ∧ i = .int .i64 k ∧ z = .int .i64 n ∧ n = (fl ls k).length ∧ Below w.heap.size w wr
def Cc2 (w : World) (B : Nat) (ls : List (List Ump)) (o i : Value) (wr : World) : Prop := ∃ (k : Nat) (L : List Ump) (g c : Nat), k ≤ ls.length ∧ i = .int .i64 k ∧ L = fl ls k ∧ o = .slice (some ⟨g, 0, none⟩) L.length c ∧ OwnL umE 3 32 B wr (.slice (some ⟨g, 0, none⟩) L.length c) L ∧ Below w.heap.size w wr
theorem concat_f (s : Nat) (ls : List (List Ump)) (n : Nat) (w : World) (hn : ls.length = n) (hn3 : n ≤ 100) (hs : s < w.heap.size) (hl1 : 1 ≤ ls.flatten.length) (hl : ls.flatten.length ≤ 10000) (hat : sliceAt w s ls) :
    Calls Try.prog 20 #[.slice (some ⟨s, 0, none⟩) n n] w fun e w' => ∃ g c, e = .returned (.slice (some ⟨g, 0, none⟩) ls.flatten.length c) ∧ OwnL umE 3 32 w.heap.size w' (.slice (some ⟨g, 0, none⟩) ls.flatten.length c) ls.flatten ∧ Below w.heap.size w w' := by
  have HAT := Lib.hid hat
  have HN := Lib.hid hn
  have hlen := Lib.hid (fun k => fl_le ls k)
  clear hat hn
  go_enter Try.func20, Try.ntmps20
  go_wp2_with (fail)
  go_loopw [3, 11] (Cc1 w ls) (fun _ i _ => n - (intOf i).toNat)
  case atStart => exact ⟨0, 0, by omega, rfl, rfl, rfl, Below.refl _ _⟩
  case round =>
    obtain ⟨k, m, hk, rfl, rfl, hm, hB⟩ := hrel
    have HM := Lib.hid hm
    have HB := Lib.hid hB
    have hm2 : m ≤ 10000 := by rw [hm]; exact Nat.le_trans (hlen.out k) hl
    have hsl : s < wr.heap.size := by have := hB.size; omega
    clear hm hB
    by_cases hlt : k < n
    · obtain ⟨l, hl3⟩ : ∃ l, ls[k]? = some l := ⟨_, List.getElem?_eq_getElem (by have := HN.out; omega)⟩
      obtain ⟨A, c, c0, hr⟩ := (HAT.out.to hs HB.out) k l hl3
      have HF := Lib.hid (show m + l.length = (fl ls (k + 1)).length by rw [fl_step hl3, List.length_append, ← HM.out])
      have hm3 : m + l.length ≤ 10000 := by rw [HF.out]; exact Nat.le_trans (hlen.out _) hl
      clear hl3 hr
      go_wp2_with (fail)
      go_roundw
      case rel => exact ⟨k + 1, m + l.length, by have := HN.out; omega, by simp, by simp, HF.out, HB.out⟩
      case measure => simp [intOf]; omega
    · have hkn : ls.length ≤ k := by have := HN.out; omega
      have HT := Lib.hid (show m = ls.flatten.length by rw [HM.out]; unfold fl; rw [List.take_of_length_le hkn])
      have hm1 : 1 ≤ m := by rw [HT.out]; exact hl1
      go_wp2_with (go_at_call 39; refine (grow_f m _ hm1 (by omega)).mono ?_; rintro e w4 ⟨g, cap, rfl, hown, hb4⟩; have HO := Lib.hid hown; have HB4 := Lib.hid (cur_step1 HB.out hb4); have hBB := hb4.size; clear hown hb4)
      obtain ⟨B, hBe⟩ : ∃ B, B = wr.heap.size := ⟨_, rfl⟩
      have hBw : w.heap.size ≤ B := by rw [hBe]; exact HB.out.size
      rw [← hBe] at HO hBB
      have HBQ := Lib.hid hBB
      clear hBe HB hsl hm1 hBB
      go_loopw [6, 27] (Cc2 w B ls) (fun _ i _ => n - (intOf i).toNat)
      case atStart => exact ⟨0, [], g, cap, by omega, rfl, rfl, rfl, HO.out, HB4.out⟩
      case round =>
        clear HO HB4 HBQ
        obtain ⟨q, L, g2, c2, hq, rfl, hL, rfl, hown, hB⟩ := hrel
        have HL := Lib.hid hL
        have HO := Lib.hid hown
        have HB := Lib.hid hB
        have hL2 : L.length ≤ 10000 := by rw [hL]; exact Nat.le_trans (hlen.out q) hl
        have hsl : s < wr.heap.size := by have := hB.size; omega
        have hgr := own_range hown g2 rfl
        clear hL hown hB
        by_cases hlt2 : q < n
        · obtain ⟨l, hl3⟩ : ∃ l, ls[q]? = some l := ⟨_, List.getElem?_eq_getElem (by have := HN.out; omega)⟩
          obtain ⟨A, c, c0, hr⟩ := (HAT.out.to hs HB.out) q l hl3
          have HF := Lib.hid (show L ++ l = fl ls (q + 1) by rw [fl_step hl3, ← HL.out])
          have hm3 : L.length + l.length ≤ 10000 := by rw [← List.length_append, HF.out]; exact Nat.le_trans (hlen.out _) hl
          have HR := Lib.hid hr
          clear hl3 hr
          go_wp2_with (at_builtin; refine wpList_appL Try.umElem _ rfl (.tmp 31) (.tmp 32) rfl B g2 c2 L rfl HO.out A c l rfl HR.out ?o1 ?o2 ?o3 ?_)
          case o1 => unfold maxLen; omega
          case o2 => omega
          case o3 => omega
          intro g3 cap3 w6 ho6 hg6 _
          have HO6 := Lib.hid ho6
          have HB6 := Lib.hid (HB.out.grown hg6 HB.out.size (by intro b hb; injection hb with hb; omega))
          clear ho6 hg6
          go_wp2_with (fail)
          go_roundw
          case rel => exact ⟨q + 1, L ++ l, g3, cap3, by have := HN.out; omega, by simp, HF.out, by simp, by rw [List.length_append]; exact HO6.out, HB6.out⟩
          case measure => simp [intOf]; omega
        · have hkn2 : ls.length ≤ q := by have := HN.out; omega
          have hLf : L = ls.flatten := by rw [HL.out]; unfold fl; rw [List.take_of_length_le hkn2]
          have HLF := Lib.hid hLf
          clear hLf
          go_wp2_with (fail)
          go_ret
          rw [← HLF.out]
          exact ⟨g2, c2, rfl, own_mono HO.out hBw, HB.out⟩
theorem run_append_nn {P : Program} {w : World} {t ty e : TypeId} {i : TypeInfo} (ht : P.underlying t = some (.slice e)) (hi : P.info? e = some i) (A : Option Addr) (c2 : Nat) :
    (Builtin.append_ #[t, t] ty #[.slice none 0 0, .slice A 0 c2]).run P w = .ok (.slice none 0 0) w := by
  cases A <;> simp [Builtin.append_, run_underlying ht, sizeOf, typeInfo, hi, Builtin.lenOf, Builtin.firstCells, storeCells, Result.andThen, loadCells, loadCellsFrom]
theorem grow_z (w : World) :
    Calls Try.prog 39 #[.slice none 0 0, .int .i64 0] w fun e w' => e = .returned (.slice none 0 0) ∧ Below w.heap.size w w' := by
  go_enter Try.func39, Try.ntmps39
  go_wp2_with (fail)
  go_ret
  exact ⟨rfl, Below.refl _ _⟩
def Cz2 (w : World) (ls : List (List Ump)) (o i : Value) (wr : World) : Prop := ∃ (k : Nat), k ≤ ls.length ∧ i = .int .i64 k ∧ o = .slice none 0 0 ∧ Below w.heap.size w wr
theorem concat_z (s : Nat) (ls : List (List Ump)) (n : Nat) (w : World) (hn : ls.length = n) (hn3 : n ≤ 100) (hs : s < w.heap.size) (hl : ls.flatten.length = 0) (hat : sliceAt w s ls) :
    Calls Try.prog 20 #[.slice (some ⟨s, 0, none⟩) n n] w fun e w' => e = .returned (.slice none 0 0) ∧ Below w.heap.size w w' := by
  obtain ⟨it, hit, _, _, _⟩ := info_parts Try.infoUm
  have HAT := Lib.hid hat
  have HN := Lib.hid hn
  have hlen := Lib.hid (show ∀ (k : Nat) (l : List Ump), ls[k]? = some l → l.length = 0 from fun k l hk => by
    have h1 : l ⊆ ls.flatten := fun x hx => List.mem_flatten.2 ⟨l, List.mem_of_getElem? hk, hx⟩
    rw [List.eq_nil_of_length_eq_zero hl] at h1
    rw [List.eq_nil_of_subset_nil h1]; rfl)
  have HRN := Lib.hid (fun (W : World) (ty : TypeId) (A : Option Addr) (c2 : Nat) => run_append_nn (P := Try.prog) (w := W) (ty := ty) Try.underlying23 hit A c2)
  clear hat hn hl hit
  go_enter Try.func20, Try.ntmps20
  go_wp2_with (fail)
  go_loopw [3, 11] (fun z i wr => ∃ k : Nat, k ≤ ls.length ∧ i = .int .i64 k ∧ z = .int .i64 0 ∧ Below w.heap.size w wr) (fun _ i _ => n - (intOf i).toNat)
  case atStart => exact ⟨0, by omega, rfl, rfl, Below.refl _ _⟩
  case round =>
    obtain ⟨k, hk, rfl, rfl, hB⟩ := hrel
    have HB := Lib.hid hB
    have hsl : s < wr.heap.size := by have := hB.size; omega
    clear hB
    by_cases hlt : k < n
    · obtain ⟨l, hl3⟩ : ∃ l, ls[k]? = some l := ⟨_, List.getElem?_eq_getElem (by have := HN.out; omega)⟩
      obtain ⟨A, c, c0, _⟩ := (HAT.out.to hs HB.out) k l hl3
      rw [hlen.out k l hl3] at c0
      clear hl3
      go_wp2_with (fail)
      exact ⟨⟨k + 1, by have := HN.out; omega, rfl, rfl, HB.out⟩, by show n - (k + 1) < n - k; omega⟩
    · go_wp2_with (fail)
      refine (grow_z wr).mono ?_
      rintro e w4 ⟨rfl, hb4⟩
      have HB4 := Lib.hid (cur_step1 HB.out hb4)
      have hs4 : s < w4.heap.size := by have := hb4.size; omega
      clear hb4
      go_wp2_with (fail)
      go_loopw [6, 27] (Cz2 w ls) (fun _ i _ => n - (intOf i).toNat)
      case atStart => exact ⟨0, by omega, rfl, rfl, HB4.out⟩
      case round =>
        clear HB4 hs4
        obtain ⟨q, hq, rfl, rfl, hB⟩ := hrel
        have HB := Lib.hid hB
        have hsl : s < wr.heap.size := by have := hB.size; omega
        clear hB
        by_cases hlt2 : q < n
        · obtain ⟨l, hl3⟩ : ∃ l, ls[q]? = some l := ⟨_, List.getElem?_eq_getElem (by have := HN.out; omega)⟩
          obtain ⟨A, c, c0, _⟩ := (HAT.out.to hs HB.out) q l hl3
          rw [hlen.out q l hl3] at c0
          clear hl3
          go_wp2_with (at_builtin; refine Lib.wpList_append_run _ rfl _ _ _ _ rfl _ _ rfl rfl _ _ (HRN.out _ _ A c) ?_)
          exact ⟨⟨q + 1, by have := HN.out; omega, rfl, rfl, HB.out⟩, by show n - (q + 1) < n - q; omega⟩
        · go_wp2_with (fail)
          go_ret
          exact ⟨rfl, HB.out⟩
end Go.Proofs.Ytckbhdokfkabfaa
