/-
  Chapter 49: Bye of the reference.
-/
import Derived.Test.YthoocjcbpjdjhaaBye49
import Derived.Test.YthoocjcbpjdjhaaSpecK49
namespace Go.Proofs.Ythoocjcbpjdjhaa
open Go.RowKit

def ByrI (w : World) (N : Nat) (l : List Fx) (r : Int) (i : Value) (wr : World) : Prop :=
  ∃ t : Nat, t ≤ N ∧ i = .int .i64 t ∧ Below w.heap.size w wr ∧ ∀ s : Nat, s < t → busyL l r s = true
def ByrJ (w : World) (l : List Fx) (r t : Int) (m i : Value) (wr : World) : Prop :=
  ∃ j : Nat, j ≤ l.length ∧ i = .int .i64 j ∧ m = .bool (busyL (l.take j) r t) ∧ Below w.heap.size w wr

set_option maxRecDepth 100000 in
set_option maxHeartbeats 1000000 in
theorem bye_r (A : Option Addr) (c : Nat) (l : List Fx) (n r : Int) (w : World) (hl : l.length ≤ 1000) (hr : Rd fxE 3 w w.heap.size A l) :
    Calls Try.prog 20 #[.slice A l.length c, .int .i64 n, .int .i64 r] w fun e w' => e = .returned (.int .i64 (byeL l n r)) ∧ Below w.heap.size w w' := by
  by_cases h1 : n < 2 ∨ 20 < n
  · have H := Lib.hid (bye_bad (l := l) (r := r) h1)
    by_cases h2 : n < 2
    · clear h1
      go_enter Try.func20, Try.ntmps20
      go_wp2
      go_ret
      exact ⟨ret_int H.out.symm, Below.refl _ _⟩
    · have h3 : 20 < n := by omega
      clear h1
      go_enter Try.func20, Try.ntmps20
      go_wp2
      go_ret
      exact ⟨ret_int H.out.symm, Below.refl _ _⟩
  obtain ⟨N, rfl⟩ : ∃ N : Nat, n = N := ⟨n.toNat, by omega⟩
  have h2 : 2 ≤ N := by omega
  have h3 : N ≤ 20 := by omega
  clear h1
  go_enter Try.func20, Try.ntmps20
  go_wp2
  go_loopw [7] (ByrI w N l r) (fun i _ => N - (intOf i).toNat)
  case atStart => exact ⟨0, by omega, rfl, Below.refl _ _, fun s hs => absurd hs (by omega)⟩
  case round =>
    obtain ⟨t, ht, rfl, hb, hall⟩ := hrel
    have HA := Lib.hid hall
    clear hall
    by_cases htn : t < N
    · go_wp2
      go_loopw [8, 24] (ByrJ w l r t) (fun _ i _ => l.length - (intOf i).toNat)
      case atStart => exact ⟨0, by omega, rfl, rfl, hb⟩
      case round =>
        obtain ⟨j, hj, rfl, rfl, hb6⟩ := hrel
        by_cases hjl : j < l.length
        · obtain ⟨f, hf⟩ : ∃ f, l[j]? = some f := ⟨_, List.getElem?_eq_getElem hjl⟩
          obtain ⟨b, off, rfl, hbb, c0, c1, c2⟩ := rdFx hr hb6 hf
          have HN := Lib.hid (busy_next (r := r) (t := (t : Int)) hf)
          obtain ⟨fr, fh, fa⟩ := f
          simp only [] at c0 c1 c2
          have hsz := hb6.size
          clear hf
          by_cases e1 : busyL (l.take j) r t = true
          · have HE1 := Lib.hid e1
            simp only [e1]
            clear e1
            go_wp2
            go_roundw
            case rel => exact ⟨j + 1, hjl, by simp, by rw [HN.out, HE1.out]; rfl, cur_step1 hb6 (cur_new _ _)⟩
            case measure => simp [intOf]; omega
          · have e1 : busyL (l.take j) r t = false := by simpa using e1
            have HE1 := Lib.hid e1
            simp only [e1]
            clear e1
            by_cases e2 : fr = r
            · have e2' : (fr == r) = true := by simpa using e2
              have HE2 := Lib.hid e2'
              clear e2
              by_cases e3 : playsL ⟨fr, fh, fa⟩ t = true
              all_goals
                (try (have e3 : playsL ⟨fr, fh, fa⟩ t = false := by simpa using e3))
                have HE3 := Lib.hid e3
                clear e3
                go_wp2_with (go_at_call 31; refine (plays_w _ _ _ _ _ _ HE3.out).mono ?_; rintro e w1 ⟨rfl, hb1⟩; have hcur := cur_step1 hb6 (cur_step0 hb1))
                go_roundw
                case rel => exact ⟨j + 1, hjl, by simp, by rw [HN.out, HE1.out]; simp only [HE2.out, HE3.out]; rfl, hcur⟩
                case measure => simp [intOf]; omega
            · have e2' : (fr == r) = false := by simpa using e2
              have HE2 := Lib.hid e2'
              clear e2
              go_wp2
              go_roundw
              case rel => exact ⟨j + 1, hjl, by simp, by rw [HN.out, HE1.out]; simp only [HE2.out]; rfl, cur_step1 hb6 (cur_new _ _)⟩
              case measure => simp [intOf]; omega
        · have hkk : l.take j = l := List.take_of_length_le (by omega)
          rw [hkk]
          by_cases e1 : busyL l r t = true
          · have HE1 := Lib.hid e1
            simp only [e1]
            clear e1 hkk
            go_wp2
            go_roundw
            case rel =>
              refine ⟨t + 1, htn, by simp, hb6, ?_⟩
              intro s hs
              by_cases e : s = t
              · rw [e]; exact HE1.out
              · exact HA.out s (by omega)
            case measure => simp [intOf]; omega
          · have e1 : busyL l r t = false := by simpa using e1
            have HALL := Lib.hid (bye_hit h2 h3 htn HA.out e1)
            simp only [e1]
            clear e1 hkk
            go_wp2
            go_ret
            exact ⟨ret_int HALL.out.symm, hb6⟩
    · have HALL := Lib.hid (bye_none (l := l) (r := r) h2 h3 (by intro s hs; exact HA.out s (by omega)))
      go_wp2
      go_ret
      exact ⟨ret_int HALL.out.symm, hb⟩
end Go.Proofs.Ythoocjcbpjdjhaa
