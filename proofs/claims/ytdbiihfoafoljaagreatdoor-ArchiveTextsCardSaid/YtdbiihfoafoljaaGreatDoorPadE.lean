/-
  scorebookref03.Padded, Decimal, Number.
-/
import Derived.Test.YtdbiihfoafoljaaGreatDoorNumE
import Derived.Test.YtdbiihfoafoljaaGreatDoorOvP
import Derived.LoopTactic
set_option linter.unusedSimpArgs false
set_option linter.unusedVariables false
namespace Go.Proofs.YtdbiihfoafoljaaGreatDoor
open Go.RowKit
set_option maxRecDepth 100000
set_option maxHeartbeats 1000000

def strLen : Value → Nat
  | .string s => s.size
  | _ => 0
def PadR (w : World) (n : Nat) (u s : Value) (wr : World) : Prop := ∃ (k : Nat) (S : List UInt8), u = .int .u64 k ∧ s = .string ⟨S.toArray⟩ ∧ S.length + k ≤ n + 1 ∧ ((S = [] ∧ k = n) ∨ (S ≠ [] ∧ Lib.decDigits n = (if k = 0 then [] else Lib.decDigits k) ++ S)) ∧ wr = w
theorem one_dig : ∀ j : Nat, j < 10 → (ByteArray.mk #[48, 49, 50, 51, 52, 53, 54, 55, 56, 57]).extract j (j + 1) = ByteArray.mk #[UInt8.ofNat (48 + j)] := by
  intro j hj
  have : j = 0 ∨ j = 1 ∨ j = 2 ∨ j = 3 ∨ j = 4 ∨ j = 5 ∨ j = 6 ∨ j = 7 ∨ j = 8 ∨ j = 9 := by omega
  rcases this with rfl | rfl | rfl | rfl | rfl | rfl | rfl | rfl | rfl | rfl <;> rfl
theorem dig_cat (j : Nat) (S : List UInt8) (hj : j < 10) : ((ByteArray.mk #[48, 49, 50, 51, 52, 53, 54, 55, 56, 57]).extract j (j + 1) ++ ByteArray.mk S.toArray) = ByteArray.mk (UInt8.ofNat (48 + j) :: S).toArray := by
  rw [one_dig j hj]
  apply ByteArray.ext
  simp [ByteArray.data_append]
theorem pad_step {n k : Nat} {S : List UInt8} (h : (S = [] ∧ k = n) ∨ (S ≠ [] ∧ Lib.decDigits n = (if k = 0 then [] else Lib.decDigits k) ++ S)) (hc : 0 < k ∨ S = []) :
    Lib.decDigits n = (if k / 10 = 0 then [] else Lib.decDigits (k / 10)) ++ (UInt8.ofNat (48 + k % 10) :: S) := by
  have hd : Lib.decDigits k = (if k / 10 = 0 then [] else Lib.decDigits (k / 10)) ++ [UInt8.ofNat (48 + k % 10)] := by
    by_cases h10 : k < 10
    · rw [decDigits_small h10, if_pos (by omega), Nat.mod_eq_of_lt h10]; rfl
    · rw [decDigits_big h10, if_neg (by omega)]
  rcases h with ⟨rfl, rfl⟩ | ⟨h1, h2⟩
  · exact hd
  · rcases hc with hc | hc
    · rw [h2, if_neg (by omega), hd, List.append_assoc]; rfl
    · exact absurd hc h1
theorem ret_strv {a b : ByteArray} (h : a = b) : Ending.returned (.string a) = .returned (.string b) := by rw [h]
theorem padded_r (n : Nat) (hn : n ≤ 1000000000000000000) (w : World) : Calls Tryz.prog 53 #[.int .i64 n, .int .i64 1] w fun e w' => e = .returned (.string ⟨(Lib.decDigits n).toArray⟩) ∧ Below w.heap.size w w' := by
  have hw1 : IntKind.u64.wrap (n : Int) = n := by rw [IntKind.wrap_u64]; omega
  go_enter Tryz.func53, Tryz.ntmps53
  go_wp2_with (fail)
  go_loopw [6, 8] (PadR w n) (fun u s _ => (intOf u).toNat + (1 - strLen s))
  case atStart => exact ⟨n, [], rfl, rfl, by simp, .inl ⟨rfl, rfl⟩, rfl⟩
  case round =>
    obtain ⟨k, S, rfl, rfl, hlen, hq, rfl⟩ := hrel
    have HQ := Lib.hid hq
    clear hq
    by_cases hk : 0 < k
    · have d1 : Int.tmod (k : Int) 10 = (k % 10 : Nat) := by rw [Int.tmod_eq_emod_of_nonneg (by omega)]; rfl
      have d2 : Int.tdiv (k : Int) 10 = (k / 10 : Nat) := by rw [Int.tdiv_eq_ediv_of_nonneg (by omega)]; rfl
      go_wp2_with (fail)
      refine ⟨⟨k / 10, UInt8.ofNat (48 + k % 10) :: S, rfl, by rw [dig_cat _ _ (Nat.mod_lt _ (by omega))], by simp only [List.length_cons]; omega, .inr ⟨by simp, pad_step HQ.out (.inl hk)⟩, rfl⟩, ?_⟩
      have hsz : strLen (.string (ByteArray.mk S.toArray)) = S.length := by show S.toArray.size = _; rw [List.size_toArray]
      rw [dig_cat _ _ (Nat.mod_lt _ (by omega)), hsz]
      have hsz2 : strLen (.string (ByteArray.mk (UInt8.ofNat (48 + k % 10) :: S).toArray)) = S.length + 1 := by show (UInt8.ofNat (48 + k % 10) :: S).toArray.size = _; rw [List.size_toArray]; rfl
      rw [hsz2]
      simp only [intOf]
      omega
    · obtain rfl : k = 0 := by omega
      cases S with
      | nil =>
        have hn0 : n = 0 := by
          rcases HQ.out with ⟨_, h⟩ | ⟨h, _⟩
          · exact h.symm
          · exact absurd rfl h
        subst hn0
        go_wp2_with (fail)
        exact ⟨⟨0, [48], rfl, by rfl, by simp, .inr ⟨by simp, by rw [decDigits_small (by omega)]; rfl⟩, rfl⟩, by show 0 + (1 - 1) < 0 + (1 - 0); omega⟩
      | cons c S =>
        have hN := HQ.out
        simp only [reduceCtorEq, false_and, false_or, ne_eq, not_false_eq_true, true_and, if_true, List.nil_append] at hN
        have HN := Lib.hid hN
        have hl2 : S.length + 1 ≤ n + 1 := by simpa using hlen
        clear hN
        go_wp2_with (fail)
        go_ret
        exact ⟨ret_strv (by rw [HN.out]; apply ByteArray.ext; simp [ByteArray.data_append]), Below.refl _ _⟩
theorem decimal_r (n : Nat) (hn : n ≤ 1000000000000000000) (w : World) : Calls Tryz.prog 26 #[.int .i64 n] w fun e w' => e = .returned (.string ⟨(Lib.decDigits n).toArray⟩) ∧ Below w.heap.size w w' := by
  go_enter Tryz.func26, Tryz.ntmps26
  go_wp2_with (go_at_call 53; refine (padded_r n hn _).mono ?_; rintro e w1 ⟨rfl, hb⟩; have HB := Lib.hid hb; clear hb)
  go_ret
  exact ⟨rfl, HB.out⟩
end Go.Proofs.YtdbiihfoafoljaaGreatDoor
