/-
  Chapter 56: the points of a player.
-/
import Derived.Test.YtpninpohligomaaGreatDoorLeaf56
set_option linter.unusedSimpArgs false
set_option linter.unusedVariables false
namespace Go.Proofs.YtpninpohligomaaGreatDoor
open Go.RowKit
set_option maxRecDepth 100000
set_option maxHeartbeats 1000000
def PtsR (w : World) (l : List Of) (p : ByteArray) (d : Int) (n i : Value) (wr : World) : Prop := ∃ k : Nat, k ≤ l.length ∧ i = .int .i64 k ∧ n = .int .i64 (ptsL p d (l.take k)) ∧ Below w.heap.size w wr
theorem points_p (A : Option Addr) (c : Nat) (l : List Of) (p : ByteArray) (d v : Int) (w : World) (hl : l.length ≤ 2000) (hr : Rd ofE 4 w w.heap.size A l) (hok : ∀ z ∈ l, 1 ≤ z.n ∧ z.n ≤ 8) (hd : 0 ≤ d ∧ d ≤ 1000000) (hv : ptsL p d l = v) :
    Calls Tryz.prog 46 #[.slice A l.length c, .string p, .int .i64 d] w fun e w' => e = .returned (.int .i64 v) ∧ Below w.heap.size w w' := by
  have HV := Lib.hid hv
  have HR := Lib.hid hr
  have HOK := Lib.hid hok
  clear hv hr hok
  go_enter Tryz.func46, Tryz.ntmps46
  go_wp2_with fail
  go_loopw [7, 12] (PtsR w l p d) (fun _ i _ => l.length - (intOf i).toNat)
  case atStart => exact ⟨0, by omega, rfl, rfl, Below.refl _ _⟩
  case round =>
    obtain ⟨k, hk, rfl, rfl, hB⟩ := hrel
    have HB := Lib.hid hB
    clear hB
    by_cases hlt : k < l.length
    · obtain ⟨z, hz⟩ : ∃ z, l[k]? = some z := ⟨_, List.getElem?_eq_getElem hlt⟩
      obtain ⟨b, off, rfl, hbb, hcl⟩ := HR.out.at_ HB.out hz
      obtain ⟨c0, c1, c2, c3⟩ := of_cells hcl
      have es := seq_to z.p p
      have hn := HOK.out z (List.mem_of_getElem? hz)
      have hp : 0 ≤ ptsL p d (l.take k) ∧ ptsL p d (l.take k) ≤ 16000 := by
        have h := pts_rng (p := p) (d := d) (l := l.take k) fun y hy => HOK.out y (List.mem_of_mem_take hy)
        have h2 : (l.take k).length ≤ 2000 := by rw [List.length_take]; omega
        omega
      have HS := Lib.hid (ptsL_snoc (p := p) (d := d) hz)
      obtain ⟨m, hm⟩ : ∃ m, ptsL p d (l.take k) = m := ⟨_, rfl⟩
      rw [hm] at HS hp ⊢
      clear hcl hz hm
      cases hs : seq z.p p
      · rw [hs] at es
        have HN := Lib.hid (show ptsL p d (l.take (k + 1)) = m by rw [HS.out]; unfold cntO; rw [hs]; simp)
        clear hs HS
        go_wp2_with fail
        go_roundw
        case rel => exact ⟨k + 1, hlt, by simp, by rw [HN.out], by first | exact HB.out | exact cur_step1 HB.out (cur_new _ _)⟩
        case measure => simp [intOf]; omega
      · rw [hs] at es
        cases h1 : decide (z.d ≤ d)
        · have HN := Lib.hid (show ptsL p d (l.take (k + 1)) = m by rw [HS.out]; unfold cntO; rw [hs, h1]; simp)
          clear hs HS
          go_wp2_with fail
          go_roundw
          case rel => exact ⟨k + 1, hlt, by simp, by rw [HN.out], by first | exact HB.out | exact cur_step1 HB.out (cur_new _ _)⟩
          case measure => simp [intOf]; omega
        · cases h2 : decide (d - 730 < z.d)
          · have HN := Lib.hid (show ptsL p d (l.take (k + 1)) = m by rw [HS.out]; unfold cntO; rw [hs, h1, h2]; simp)
            clear hs HS
            go_wp2_with fail
            go_roundw
            case rel => exact ⟨k + 1, hlt, by simp, by rw [HN.out], by first | exact HB.out | exact cur_step1 HB.out (cur_new _ _)⟩
            case measure => simp [intOf]; omega
          · have HN := Lib.hid (show ptsL p d (l.take (k + 1)) = m + z.n by rw [HS.out]; unfold cntO; rw [hs, h1, h2]; simp)
            clear hs HS
            go_wp2_with fail
            go_roundw
            case rel => exact ⟨k + 1, hlt, by simp, by rw [HN.out], by first | exact HB.out | exact cur_step1 HB.out (cur_new _ _)⟩
            case measure => simp [intOf]; omega
    · have hke : l.length ≤ k := by omega
      have hT : l.take k = l := List.take_of_length_le hke
      rw [hT, HV.out]
      clear hT hke
      go_wp2_with fail
      go_ret
      exact ⟨rfl, HB.out⟩
end Go.Proofs.YtpninpohligomaaGreatDoor
