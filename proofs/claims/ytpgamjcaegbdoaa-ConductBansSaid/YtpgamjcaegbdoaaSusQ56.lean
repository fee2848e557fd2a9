/-
  Chapter 56: Suspensions with its answer under a name; lists of entries of the call's own.
-/
import Derived.Test.YtpgamjcaegbdoaaLawC56
namespace Go.Proofs.Ytpgamjcaegbdoaa
open Go.RowKit
set_option maxRecDepth 100000
set_option maxHeartbeats 1000000
theorem susp_q (A M : Option Addr) (c mc : Nat) (l : List Of) (p : ByteArray) (ms : List Int) (R : List Int) (E : Int) (w : World) (hl : l.length ≤ 2000) (hlc : l.length ≤ c) (hml : ms.length ≤ 400) (hr : Rd ofE 4 w w.heap.size A l) (hm : Rd inE 1 w w.heap.size M ms) (hsz : ∀ z ∈ l, z.p.size ≤ 9223372036854775807) (hs : suspS l p ms = (R, E)) :
    Calls Try.prog 15 #[.slice A l.length c, .string p, .slice M ms.length mc] w fun e w' => ∃ A2 c2, e = .returned (.tuple #[.slice A2 R.length c2, .int .i64 E]) ∧ Rd inE 1 w' w'.heap.size A2 R ∧ Below w.heap.size w w' := by
  have h := susp_p A M c mc l p ms w hl hlc hml hr hm hsz
  rw [hs] at h
  exact h
theorem susp_err {l : List Of} {p : ByteArray} {ms R : List Int} {E : Int} (h : suspS l p ms = (R, E)) (he : E ≠ 0) : R = [] := by
  unfold suspS at h
  split at h
  · injection h with h1 h2; exact h1.symm
  · split at h
    · injection h with h1 h2; exact h1.symm
    · injection h with h1 h2; exact absurd h2.symm he
theorem susp_ok {l : List Of} {p : ByteArray} {ms R : List Int} (h : suspS l p ms = (R, 0)) : ckO l = 0 ∧ R = pick ms (marksO l p ms l.length) := by
  unfold suspS at h
  split at h
  · next h0 => injection h with h1 h2; exact absurd h2 h0
  · next h0 =>
    split at h
    · next h1 => injection h with h2 h3; exact absurd h3 h1
    · injection h with h2 h3
      exact ⟨by simpa using h0, h2.symm⟩
theorem pick_sub : ∀ (a : List Int) (b : List Bool) (x : Int), x ∈ pick a b → x ∈ a
  | [], b, x, h => by unfold pick at h; cases h
  | _ :: _, [], x, h => by unfold pick at h; cases h
  | y :: a, t :: b, x, h => by
    unfold pick at h
    split at h
    · rcases List.mem_cons.1 h with rfl | h
      · exact List.mem_cons_self ..
      · exact List.mem_cons_of_mem _ (pick_sub a b x h)
    · exact List.mem_cons_of_mem _ (pick_sub a b x h)
theorem susp_len {l : List Of} {p : ByteArray} {ms R : List Int} {E : Int} (h : suspS l p ms = (R, E)) : R.length ≤ ms.length := by
  unfold suspS at h
  split at h
  · injection h with h1 h2; rw [← h1]; simp
  · split at h
    · injection h with h1 h2; rw [← h1]; simp
    · injection h with h1 h2; rw [← h1]; exact pick_len _ _
theorem Try.infoOf : (Try.prog.info? 35).map (fun i => (i.zero, i.size, i.bytes)) = some (some (.agg #[.int .i64 0, .string ⟨#[]⟩, .int .i64 0, .int .i64 0]), 4, 40) := by kernel_rfl
theorem Try.ofElem : ElemOf Try.prog ofE 4 40 22 35 := .mk' Try.infoOf rfl Try.underlying22 (by decide) ofE_len (fun x u hu => by simp [ofE] at hu; rcases hu with rfl | rfl | rfl | rfl <;> rfl)
end Go.Proofs.Ytpgamjcaegbdoaa
