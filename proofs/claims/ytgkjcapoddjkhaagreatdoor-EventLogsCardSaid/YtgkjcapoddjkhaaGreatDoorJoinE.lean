/-
  strings.Join at a row of the call's own.
-/
import Derived.Test.YtgkjcapoddjkhaaGreatDoorEvT1
import Derived.Test.YtgkjcapoddjkhaaGreatDoorEvL
set_option linter.unusedSimpArgs false
set_option linter.unusedVariables false
namespace Go.Proofs.YtgkjcapoddjkhaaGreatDoor
open Go.RowKit
set_option maxRecDepth 100000
set_option maxHeartbeats 4000000
theorem Tryz.extraJ : Builder.Extra Tryz.prog Tryz.laysJoin_ren where
  sizeBuilder := by kernel_rfl
  liesBuilder := by kernel_rfl
  t5 := Tryz.underlying5
  a5 := Tryz.isAgg5
  z5 := Tryz.sizeOf5
  v5 := Tryz.zeroValue5
  infoByte := by kernel_rfl
  cellsByte := by kernel_rfl
  sizeByte := by kernel_rfl
  neB5 := by decide
theorem join_is : ∀ l : List (List UInt8), Lib.join l [32] = joinS l
  | [] => rfl
  | [w] => by simp [Lib.join, joinS]
  | w :: v :: r => by
    have ih := join_is (v :: r)
    rw [joinS, if_neg (by simp), ← ih]
    simp [Lib.join]
theorem join_own {base c : Nat} {A : Option Addr} {l : List (List UInt8)} (hl : l ≠ []) (hn : l.length ≤ 100000) (hlen : (joinS l).length ≤ 1000000000) (w : World) (ho : OwnL stE 1 9 base w (.slice A l.length c) l) :
    Calls Tryz.prog 29 #[.slice A l.length c, .string ⟨#[32]⟩] w fun e w' => e = .returned (.string (sA (joinS l))) ∧ Below w.heap.size w w' := by
  obtain ⟨A', c', e, hrd, _⟩ := OwnL.rd stE_len ho
  injection e with e1 _ e3
  subst e1 e3
  have hcap := own_cap ho
  match l, hl with
  | [x], _ =>
    obtain ⟨b, off, rfl, hb, hc⟩ := hrd 0 x rfl
    refine (Any.strings_Join_one Tryz.laysJoin Tryz.extraJ b off c (sA x) ⟨#[32]⟩ w (by have := hc 0 _ rfl; simpa using this)).mono fun e w' h => ⟨?_, ?_⟩
    · rw [h.1]; simp [joinS]
    · rw [h.2]; exact Below.refl _ _
  | x :: y :: r, _ =>
    obtain ⟨b, off, rfl, hb, hc⟩ := hrd 0 x rfl
    have hm : ((x :: y :: r).map sA).map (fun s : ByteArray => s.data.toList) = x :: y :: r := by
      rw [List.map_map]
      exact List.map_id' _
    have hlen2 : (x :: y :: r).length = ((x :: y :: r).map sA).length := by rw [List.length_map]
    rw [hlen2]
    refine (Any.strings_Join_many Tryz.laysJoin Tryz.extraJ b off c ((x :: y :: r).map sA) ⟨#[32]⟩ w (fun j z hz => ?_) hb (by simp) (by simp at hn ⊢; omega) (by rw [List.length_map]; exact hcap) (by rw [hm]; show (Lib.join _ [32]).length ≤ _; rw [join_is]; omega)).mono fun e w' h => ⟨?_, h.2⟩
    · rw [List.getElem?_map] at hz
      obtain ⟨q, hq, rfl⟩ := Option.map_eq_some_iff.1 hz
      obtain ⟨b2, off2, e2, _, hc2⟩ := hrd j q hq
      injection e2 with e2
      injection e2 with e21 e22 _
      subst e21 e22
      have := hc2 0 _ rfl
      simpa using this
    · rw [h.1, hm]
      show Ending.returned (Value.string ⟨(Lib.join _ [32]).toArray⟩) = _
      rw [join_is]
      rfl
end Go.Proofs.YtgkjcapoddjkhaaGreatDoor
