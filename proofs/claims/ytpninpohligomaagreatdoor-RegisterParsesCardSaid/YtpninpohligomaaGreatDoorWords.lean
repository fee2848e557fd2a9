/-
  Words of the reference: the pieces between a byte.
-/
import Derived.Test.YtpninpohligomaaGreatDoorSplP
import Derived.Test.YtpninpohligomaaGreatDoorApp
import Derived.Test.YtpninpohligomaaGreatDoorName
set_option linter.unusedSimpArgs false
set_option linter.unusedVariables false
namespace Go.Proofs.YtpninpohligomaaGreatDoor
open Go.RowKit
set_option maxRecDepth 100000
set_option maxHeartbeats 1000000
def stE (s : ByteArray) : List Value := [.string s]
theorem stE_len (s : ByteArray) : (stE s).length = 1 := rfl
theorem st_cell {w : World} {b off k : Nat} {x : ByteArray} (h : ∀ j u, (stE x)[j]? = some u → w.cell? ⟨b, off + k * 1 + j, none⟩ = some u) : w.cell? ⟨b, off + k, none⟩ = some (.string x) := by
  have := h 0 _ rfl
  simpa using this
theorem stElem : ElemOf Tryz.prog stE 1 16 77 9 := ElemOf.mk' (z := .string ByteArray.empty) (by kernel_rfl) rfl Tryz.underlying77 (by decide) stE_len (by intro x u hu; simp [stE] at hu; subst hu; rfl)
/-- One byte more. -/
def stepC (c : UInt8) (s : List (List UInt8) × List UInt8) (x : UInt8) : List (List UInt8) × List UInt8 := if x = c then (s.1 ++ [s.2], []) else (s.1, s.2 ++ [x])
def runC (c : UInt8) (l : List UInt8) : List (List UInt8) × List UInt8 := l.foldl (stepC c) ([], [])
theorem run_split (c : UInt8) : ∀ (l : List UInt8) (d : List (List UInt8)) (q : List UInt8), (l.foldl (stepC c) (d, q)).1 ++ [(l.foldl (stepC c) (d, q)).2] = d ++ (match splitC c l with | [] => [q] | h :: t => (q ++ h) :: t)
  | [], d, q => by simp [splitC]
  | x :: r, d, q => by
    rw [List.foldl_cons]
    by_cases hx : x = c
    · have e : stepC c (d, q) x = (d ++ [q], []) := by unfold stepC; rw [if_pos hx]
      rw [e, run_split c r, splitC, if_pos hx]
      cases h : splitC c r with
      | nil => exact absurd h (splitC_ne c r)
      | cons a b => simp
    · have e : stepC c (d, q) x = (d, q ++ [x]) := by unfold stepC; rw [if_neg hx]
      rw [e, run_split c r, splitC, if_neg hx]
      cases h : splitC c r with
      | nil => exact absurd h (splitC_ne c r)
      | cons a b => simp
theorem runC_all (c : UInt8) (l : List UInt8) : splitC c l = (runC c l).1 ++ [(runC c l).2] := by
  unfold runC
  rw [run_split c l [] []]
  cases h : splitC c l with
  | nil => exact absurd h (splitC_ne c l)
  | cons a b => simp
theorem runC_next {c x : UInt8} {l : List UInt8} {k : Nat} (h : l[k]? = some x) : runC c (l.take (k + 1)) = stepC c (runC c (l.take k)) x := by
  unfold runC
  rw [List.take_add_one, h, List.foldl_append]; rfl
def baS (x : List UInt8) : ByteArray := ⟨x.toArray⟩
/-- The loop: up to byte k the whole pieces are out, the piece that has begun begins at f; behind the end all pieces are out. -/
def WdR (s : ByteArray) (c : UInt8) (w : World) (v fv iv : Value) (wr : World) : Prop := ∃ (k f : Nat) (out : List ByteArray) (A : Option Addr) (cp : Nat), k ≤ s.size + 1 ∧ iv = .int .i64 k ∧ fv = .int .i64 f ∧ v = .slice A out.length cp ∧ OwnL stE 1 9 w.heap.size wr (.slice A out.length cp) out ∧ out.length ≤ k ∧
  (if k ≤ s.size then f ≤ k ∧ out = (runC c (s.data.toList.take k)).1.map baS ∧ (runC c (s.data.toList.take k)).2 = (s.data.toList.take k).drop f else out = splS c s.data.toList) ∧ Below w.heap.size w wr
theorem cut_eq (s : ByteArray) (f k : Nat) : s.extract f k = baS ((s.data.toList.take k).drop f) := by
  unfold baS
  apply ByteArray.ext
  apply Array.toList_inj.1
  simp [ByteArray.data_extract, Array.toList_extract, List.extract_eq_take_drop, List.drop_take]
theorem own_block_lt {α : Type} {enc : α → List Value} {size : Nat} {w : World} {base e : Nat} {v : Value} {l : List α} (h : OwnL enc size e base w v l) {g : Nat} (hg : v.ownBlock = some g) : base ≤ g ∧ g < w.heap.size := by
  rcases h.2 with ⟨rfl, _⟩ | ⟨g', cap, cur, rfl, hb, hh, _⟩
  · cases hg
  · injection hg with hg
    subst hg
    exact ⟨hb, (Array.getElem?_eq_some_iff.1 hh).1⟩
theorem words_r (s : ByteArray) (c : UInt8) (w : World) (hs : s.size ≤ 1000000) :
    Calls Tryz.prog 37 #[.string s, .int .u8 c.toNat] w fun e w' => ∃ v, e = .returned v ∧ OwnL stE 1 9 w.heap.size w' v (splS c s.data.toList) ∧ Below w.heap.size w w' := by
  have hsl : s.data.toList.length = s.size := by simp
  go_enter Tryz.func37, Tryz.ntmps37
  go_wp2_with fail
  have hown0 : OwnL stE 1 9 w.heap.size (w.alloc (.cells #[] 9)) (.slice (some ⟨w.heap.size, 0, none⟩) 0 0) [] := ⟨rfl, .inr ⟨w.heap.size, 0, #[], rfl, Nat.le_refl _, heap_alloc_new w _, Nat.le_refl _, by decide, rfl, rfl⟩⟩
  go_loopw [5, 6, 7] (WdR s c w) (fun _ _ i _ => s.size + 1 - (intOf i).toNat)
  case atStart => exact ⟨0, 0, [], some ⟨w.heap.size, 0, none⟩, 0, by omega, rfl, rfl, rfl, hown0, by simp, by rw [if_pos (by omega)]; exact ⟨by omega, rfl, rfl⟩, cur_new _ _⟩
  case round =>
    obtain ⟨k, f, out, A, cp, hk, rfl, rfl, rfl, hown, hol, hst, hb⟩ := hrel
    have HO := Lib.hid hown
    have HB := Lib.hid hb
    have HOL := Lib.hid hol
    have hbs := hb.size
    clear hown hb hown0 hol
    by_cases hle : k ≤ s.size
    · rw [if_pos hle] at hst
      obtain ⟨hf, h1, h2⟩ := hst
      have HCut := Lib.hid (cut_eq s f k)
      by_cases hend : k = s.size
      · have HF := Lib.hid (show out ++ [s.extract f k] = splS c s.data.toList by
          unfold splS
          rw [runC_all, List.map_append, cut_eq]
          have e : s.data.toList.take k = s.data.toList := List.take_of_length_le (by omega)
          rw [e] at h1 h2 ⊢
          rw [h1, ← h2]; rfl)
        clear h1 h2
        subst hend
        go_wp2_with (at_builtin; refine wpList_app1 stElem _ rfl (.tmp 26) (.tmp 31) rfl w.heap.size A cp out rfl ?o1 (s.extract f s.size) wr.heap.size 1 rfl ?o2 ?o3 ?o4 ?o5 ?_)
        case o1 => exact own_below HO.out (cur_new _ _) (Nat.le_refl _)
        case o2 => first | exact heap_alloc_new _ _ | exact (Array.getElem?_eq_some_iff.1 (heap_alloc_new _ _)).2
        case o3 => have := HOL.out; unfold maxLen; omega
        case o4 => have := HOL.out; omega
        case o5 => first | omega | (simp; omega)
        intro g2 cap w6 ha
        have hend1 := app1_end HB.out (fun b hb => (own_block_lt HO.out hb).1) (cur_new wr (.cells (stE (s.extract f s.size)).toArray 9)) ha
        have HO6 := Lib.hid hend1.2
        have HB6 := Lib.hid hend1.1
        clear ha hend1
        go_wp2_with fail
        go_roundw
        case rel => exact ⟨s.size + 1, s.size + 1, out ++ [s.extract f s.size], some ⟨g2, 0, none⟩, cap, by omega, by simp, by simp, by simp, by simpa using HO6.out, by have := HOL.out; simp; omega, by rw [if_neg (by omega)]; exact HF.out, HB6.out⟩
        case measure => simp [intOf] <;> omega
      · have hklt : k < s.size := by omega
        obtain ⟨x, hx⟩ : ∃ x, s.data.toList[k]? = some x := ⟨_, List.getElem?_eq_getElem (by omega)⟩
        have hnx := runC_next (c := c) hx
        have hsk : s[k]'hklt = x := by
          have h3 := (List.getElem?_eq_some_iff.1 hx).2
          exact h3
        have hke2 : ((k : Int) == (s.size : Int)) = false := by simp; omega
        have HX := Lib.hid hx
        by_cases hxc : x = c
        · subst hxc
          have hq : (((s[k]'hklt).toNat : Int) == (x.toNat : Int)) = true := by rw [hsk]; simp
          have hst2 : runC x (s.data.toList.take (k + 1)) = ((runC x (s.data.toList.take k)).1 ++ [(runC x (s.data.toList.take k)).2], []) := by rw [hnx]; unfold stepC; rw [if_pos rfl]
          have HF := Lib.hid (show k + 1 ≤ k + 1 ∧ out ++ [s.extract f k] = (runC x (s.data.toList.take (k + 1))).1.map baS ∧ (runC x (s.data.toList.take (k + 1))).2 = (s.data.toList.take (k + 1)).drop (k + 1) by
            rw [hst2]
            refine ⟨Nat.le_refl _, ?_, ?_⟩
            · rw [List.map_append, ← h1, HCut.out, ← h2]; rfl
            · rw [List.drop_of_length_le (by rw [List.length_take]; omega)])
          clear h1 h2 hnx hst2 hx hsk
          go_wp2_with (at_builtin; refine wpList_app1 stElem _ rfl (.tmp 26) (.tmp 31) rfl w.heap.size A cp out rfl ?o1 (s.extract f k) wr.heap.size 1 rfl ?o2 ?o3 ?o4 ?o5 ?_)
          case o1 => exact own_below HO.out (cur_new _ _) (Nat.le_refl _)
          case o2 => first | exact heap_alloc_new _ _ | exact (Array.getElem?_eq_some_iff.1 (heap_alloc_new _ _)).2
          case o3 => have := HOL.out; unfold maxLen; omega
          case o4 => have := HOL.out; omega
          case o5 => first | omega | (simp; omega)
          intro g2 cap w6 ha
          have hend1 := app1_end HB.out (fun b hb => (own_block_lt HO.out hb).1) (cur_new wr (.cells (stE (s.extract f k)).toArray 9)) ha
          have HO6 := Lib.hid hend1.2
          have HB6 := Lib.hid hend1.1
          clear ha hend1
          go_wp2_with fail
          go_roundw
          case rel => exact ⟨k + 1, k + 1, out ++ [s.extract f k], some ⟨g2, 0, none⟩, cap, by omega, by simp, by simp, by simp, by simpa using HO6.out, by have := HOL.out; simp; omega, by rw [if_pos (by omega)]; exact HF.out, HB6.out⟩
          case measure => simp [intOf] <;> omega
        · have hq : (((s[k]'hklt).toNat : Int) == (c.toNat : Int)) = false := by
            rw [hsk]
            simp only [beq_eq_false_iff_ne, ne_eq]
            intro e
            exact hxc (UInt8.toNat_inj.1 (by omega))
          have hst2 : runC c (s.data.toList.take (k + 1)) = ((runC c (s.data.toList.take k)).1, (runC c (s.data.toList.take k)).2 ++ [x]) := by rw [hnx]; unfold stepC; rw [if_neg hxc]
          have HF := Lib.hid (show f ≤ k + 1 ∧ out = (runC c (s.data.toList.take (k + 1))).1.map baS ∧ (runC c (s.data.toList.take (k + 1))).2 = (s.data.toList.take (k + 1)).drop f by
            rw [hst2]
            refine ⟨by omega, h1, ?_⟩
            show (runC c (s.data.toList.take k)).2 ++ [x] = _
            rw [h2, List.take_add_one, hx]
            simp only [Option.toList_some]
            rw [List.drop_append_of_le_length (by rw [List.length_take]; omega)])
          clear h1 h2 hnx hst2 hx hsk
          go_wp2_with fail
          go_roundw
          case rel => exact ⟨k + 1, f, out, A, cp, by omega, by simp, rfl, rfl, HO.out, by have := HOL.out; omega, by rw [if_pos (by omega)]; exact HF.out, HB.out⟩
          case measure => simp [intOf] <;> omega
    · rw [if_neg hle] at hst
      have HST := Lib.hid hst
      clear hst
      go_wp2_with fail
      go_ret
      exact ⟨_, rfl, by rw [← HST.out]; exact HO.out, HB.out⟩
end Go.Proofs.YtpninpohligomaaGreatDoor
