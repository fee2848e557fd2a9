/-
  Chapter 50: equal.
-/
import Derived.Test.YtnbhplhhemkniaaPlanR50
namespace Go.Proofs.Ytnbhplhhemkniaa
open Go.RowKit
set_option maxRecDepth 100000
set_option maxHeartbeats 4000000
def EqR (l : List Int) (w : World) (i : Value) (wr : World) : Prop := ∃ k : Nat, k ≤ l.length ∧ i = .int .i64 k ∧ Below w.heap.size w wr
theorem equal_p (A B : Option Addr) (ac bc n : Nat) (l : List Int) (w : World) (hn : l.length = n) (hm : n ≤ 4000000) (hra : Rd inE 1 w w.heap.size A l) (hrb : Rd inE 1 w w.heap.size B l) :
    Calls Try.prog 13 #[.slice A n ac, .slice B n bc] w fun e w' => e = .returned (.bool true) ∧ Below w.heap.size w w' := by
  subst hn
  have HA := Lib.hid hra
  have HB := Lib.hid hrb
  clear hra hrb
  go_enter Try.func13, Try.ntmps13
  go_wp2_with fail
  go_loopw [13] (EqR l w) (fun i _ => l.length - (intOf i).toNat)
  case atStart => exact ⟨0, by omega, rfl, Below.refl _ _⟩
  case round =>
    obtain ⟨k, hk, rfl, hb⟩ := hrel
    have HBB := Lib.hid hb
    clear hb
    by_cases hlt : k < l.length
    · obtain ⟨x, hx⟩ : ∃ x, l[k]? = some x := ⟨_, List.getElem?_eq_getElem hlt⟩
      obtain ⟨b, off, rfl, hbb, hc⟩ := HA.out.at_ HBB.out hx
      obtain ⟨b', off', rfl, hbb', hc'⟩ := HB.out.at_ HBB.out hx
      have c0 := in_cell hc
      have c1 := in_cell hc'
      clear hx hc hc'
      go_wp2_with fail
      go_quiet (fail)
      go_wp2
      exact ⟨⟨k + 1, hlt, by simp, cur_step1 HBB.out (cur_drew _ _)⟩, by simp [intOf]; omega⟩
    · have hke : k = l.length := by omega
      subst hke
      go_wp2_with fail
      go_ret
      exact ⟨rfl, HBB.out⟩
end Go.Proofs.Ytnbhplhhemkniaa
