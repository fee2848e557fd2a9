/-
  text.Name and scorebookref03.Name: a plain test of a string's bytes.
-/
import Derived.Test.YtdbiihfoafoljaaGreatDoorBase
import Derived.Test.YtdbiihfoafoljaaGreatDoorRows
import Derived.RegionTactic
import Derived.BigRegion
import Derived.Deep.RegionWith
import Derived.Lib.ConvBytes
set_option linter.unusedSimpArgs false
set_option linter.unusedVariables false
namespace Go.Proofs.YtdbiihfoafoljaaGreatDoor
open Go.RowKit

def codes (s : ByteArray) : List Int := s.data.toList.map fun c => (c.toNat : Int)
theorem codes_len (s : ByteArray) : (codes s).length = s.size := by simp [codes]
theorem codes_at {s : ByteArray} {k : Nat} (h : k < s.size) : (codes s)[k]? = some (s[k].toNat : Int) := by
  unfold codes
  rw [List.getElem?_map, List.getElem?_eq_getElem (by simpa using h)]
  rfl
theorem codes_getD {s : ByteArray} {k : Nat} (h : k < s.size) : (codes s)[k]? = some ((s.data.toList.getD k 0).toNat : Int) := by
  unfold codes
  rw [List.getElem?_map, List.getElem?_eq_getElem (by simpa using h)]
  simp [List.getD, h]
theorem codes_rng {s : ByteArray} {k : Nat} {x : Int} (h : (codes s)[k]? = some x) : 0 ≤ x ∧ x ≤ 255 := by
  unfold codes at h
  rw [List.getElem?_map] at h
  cases hk : s.data.toList[k]? with
  | none => rw [hk] at h; simp at h
  | some c =>
    rw [hk] at h
    simp only [Option.map_some, Option.some.injEq] at h
    subst h
    have := c.toNat_lt
    omega
theorem wpList_bytes {P : Program} {w : World} {ops : Array Oper} {rest : List Oper} {o : Oper} {a : Act} {Q : Exit → Act → World → Prop} (hgd : o.guard = none) (src dst : TypeId) (p : Operand) (hop : o.op = Op.convert src dst p) {s : ByteArray} (hp : a.eval p = .string s)
    {u : TypeDesc} {e : TypeId} (hs : P.underlying src = some u) (hd : P.underlying dst = some (.slice e)) (he : P.underlying e = some (.int .u8))
    (h : wpList P ops Q rest (a.put o.dst (.slice (some ⟨w.heap.size, 0, none⟩) s.size (grownCap w s.size 0 e))) (Lib.bytesWorld w e s)) : wpList P ops Q (o :: rest) a w := by
  refine wpList_plain hgd fun _ hK => ?_
  unfold Oper.wp
  simp only [execOp, hop, hp, Sem.run_bind, Lib.run_convert_string_bytes (P := P) w src dst e s hs hd he, Sem.run_pure, Result.andThen_ok]
  exact hK _ _ h
theorem bytes_below (w : World) (e : TypeId) (s : ByteArray) : Below w.heap.size w (Lib.bytesWorld w e s) :=
  ⟨rfl, rfl, rfl, by rw [Lib.bytesWorld_size]; omega, fun k hk => by rw [Lib.bytesWorld_at_old w e s k hk]⟩
def letterC (x : Int) : Bool := decide (65 ≤ x) && decide (x ≤ 90)
def restC (x : Int) : Bool := x == 95 || x == 45 || (decide (48 ≤ x) && decide (x ≤ 57))
def nmC (i : Nat) (x : Int) : Bool := letterC x || (!(i == 0) && restC x)
theorem nmC_false {k : Nat} {x : Int} (h : (x < 65 ∨ 90 < x) ∧ (k = 0 ∨ (x ≠ 95 ∧ x ≠ 45 ∧ (x < 48 ∨ 57 < x)))) : nmC k x = false := by
  obtain ⟨h1, h2⟩ := h
  have e1 : letterC x = false := by unfold letterC; rcases h1 with h | h <;> simp <;> omega
  unfold nmC
  rw [e1]
  rcases h2 with rfl | ⟨h3, h4, h5⟩
  · rfl
  · have e2 : restC x = false := by unfold restC; simp [h3, h4]; omega
    rw [e2]; simp
theorem nmC_true {k : Nat} {x : Int} (h : (65 ≤ x ∧ x ≤ 90) ∨ (k ≠ 0 ∧ (x = 95 ∨ x = 45 ∨ (48 ≤ x ∧ x ≤ 57)))) : nmC k x = true := by
  unfold nmC letterC restC
  rcases h with ⟨h1, h2⟩ | ⟨h1, h2 | h2 | ⟨h2, h3⟩⟩ <;> simp_all
def nmR : Nat → List Int → Bool
  | _, [] => true
  | i, x :: xs => nmC i x && nmR (i + 1) xs
theorem nmR_at {l : List Int} {k : Nat} {x : Int} (h : l[k]? = some x) : nmR k (l.drop k) = (nmC k x && nmR (k + 1) (l.drop (k + 1))) := by
  obtain ⟨hk, rfl⟩ := List.getElem?_eq_some_iff.1 h
  rw [List.drop_eq_getElem_cons hk]
  rfl
theorem nmR_end {l : List Int} {k : Nat} (h : l.length ≤ k) : nmR k (l.drop k) = true := by rw [List.drop_of_length_le h]; rfl
def nameB (s : ByteArray) : Bool := nmR 0 (codes s) && (decide (1 ≤ s.size) && decide (s.size ≤ 16))
theorem ret_bool {a b : Bool} (h : a = b) : Ending.returned (.bool a) = .returned (.bool b) := by rw [h]
theorem ret_int {k : IntKind} {a b : Int} (h : a = b) : Ending.returned (.int k a) = .returned (.int k b) := by rw [h]
theorem emp_size (s : ByteArray) : s.toList.isEmpty = decide (s.size = 0) := by
  rw [ByteArray.toList_eq, Bool.eq_iff_iff, List.isEmpty_iff_length_eq_zero]
  simp
theorem nameB_size {s : ByteArray} (h : s.size = 0 ∨ 16 < s.size) : nameB s = false := by
  unfold nameB
  rw [Bool.and_eq_false_iff]
  right
  simp
  omega
theorem nameB_in {s : ByteArray} (h : 1 ≤ s.size) (h2 : s.size ≤ 16) : nameB s = nmR 0 (codes s) := by
  unfold nameB
  simp [h, h2]
def NameR (w : World) (s : ByteArray) (i : Value) (wr : World) : Prop := ∃ k : Nat, k ≤ s.size ∧ i = .int .i64 k ∧ nmR 0 (codes s) = nmR k ((codes s).drop k) ∧ wr = w
set_option maxRecDepth 100000 in
set_option maxHeartbeats 1000000 in
theorem name_r (s : ByteArray) (v : Bool) (w : World) (hs : s.size ≤ 9223372036854775807) (hv : nameB s = v) :
    Calls Tryz.prog 49 #[.string s] w fun e w' => e = .returned (.bool v) ∧ Below w.heap.size w w' := by
  by_cases h0 : s.size = 0 ∨ 16 < s.size
  · have HV := Lib.hid (show v = false by rw [← hv, nameB_size h0])
    clear hv
    rcases h0 with h0 | h0
    · have he : s.toList.isEmpty = true := by rw [emp_size]; simpa using h0
      go_enter Tryz.func49, Tryz.ntmps49
      go_wp2_with fail
      go_ret
      exact ⟨ret_bool HV.out.symm, Below.refl _ _⟩
    · have he : s.toList.isEmpty = false := by rw [emp_size]; exact decide_eq_false (by omega)
      go_enter Tryz.func49, Tryz.ntmps49
      go_wp2_with fail
      go_ret
      exact ⟨ret_bool HV.out.symm, Below.refl _ _⟩
  · have he : s.toList.isEmpty = false := by rw [emp_size]; exact decide_eq_false (by omega)
    have h16 : s.size ≤ 16 := by omega
    have HV := Lib.hid (show nmR 0 (codes s) = v by rw [← hv, nameB_in (by omega) (by omega)])
    clear hv h0
    go_enter Tryz.func49, Tryz.ntmps49
    go_wp2_with fail
    go_loopw [3] (NameR w s) (fun i _ => s.size - (intOf i).toNat)
    case atStart => exact ⟨0, by omega, rfl, by simp, rfl⟩
    case round =>
      obtain ⟨k, hk, rfl, hq, rfl⟩ := hrel
      have HQ := Lib.hid hq
      clear hq
      by_cases hlt : k < s.size
      · have HA := Lib.hid (nmR_at (codes_at hlt))
        go_wp2
        all_goals first
          | (go_ret
             refine ⟨ret_bool ?_, Below.refl _ _⟩
             rw [← HV.out, HQ.out, HA.out, show nmC k (s[k].toNat : Int) = false from nmC_false (by first | omega | (rename_i hz; simp at hz; omega) | (rename_i hy hz; simp at hy; omega))]
             rfl)
          | (go_roundw
             case rel =>
               refine ⟨k + 1, by omega, by simp <;> omega, ?_, rfl⟩
               rw [HQ.out, HA.out, show nmC k (s[k].toNat : Int) = true from nmC_true (by first | omega | (rename_i hz; simp at hz; omega) | (rename_i hy hz; simp at hy; omega))]
               rfl
             case measure => simp [intOf]; omega)
      · go_wp2
        go_ret
        exact ⟨ret_bool (by rw [← HV.out, HQ.out, nmR_end (by rw [codes_len]; omega)]), Below.refl _ _⟩
set_option maxRecDepth 100000 in
set_option maxHeartbeats 1000000 in
theorem name_p (s : ByteArray) (v : Bool) (w : World) (hs : s.size ≤ 9223372036854775807) (hv : nameB s = v) :
    Calls Tryz.prog 42 #[.string s] w fun e w' => e = .returned (.bool v) ∧ Below w.heap.size w w' := by
  have HV := Lib.hid hv
  clear hv
  go_enter Tryz.func42, Tryz.ntmps42
  go_wp2_with (refine wpList_bytes rfl _ _ _ rfl (s := s) (by rfl) Tryz.underlying9 Tryz.underlying54 Tryz.underlying5 ?_)
  have hb0 := bytes_below w 5 s
  have hcell : ∀ k : Nat, k < s.size → (Lib.bytesWorld w 5 s).cell? ⟨w.heap.size, k, none⟩ = some (.int .u8 (s.data.toList.getD k 0).toNat) := Lib.bytesWorld_cell w 5 s
  obtain ⟨cap, hcap⟩ : ∃ cap, cap = grownCap w s.size 0 5 := ⟨_, rfl⟩
  have hcs : s.size ≤ cap := by rw [hcap]; exact grownCap_ge _ _ _ _
  rw [← hcap]
  have HC := Lib.hid hcell
  have HB := Lib.hid hb0
  clear hcap hcell hb0
  generalize Lib.bytesWorld w 5 s = w1 at HC HB ⊢
  go_loopw [9] (NameR w1 s) (fun i _ => s.size - (intOf i).toNat)
  case atStart => exact ⟨0, by omega, rfl, by simp, rfl⟩
  case round =>
    obtain ⟨k, hk, rfl, hq, rfl⟩ := hrel
    have HQ := Lib.hid hq
    clear hq
    by_cases hlt : k < s.size
    · have hc := HC.out k hlt
      have hx := codes_getD hlt
      obtain ⟨x, hxe⟩ : ∃ x : Int, x = ((s.data.toList.getD k 0).toNat : Int) := ⟨_, rfl⟩
      rw [← hxe] at hc hx
      have hr := codes_rng hx
      have HA := Lib.hid (nmR_at hx)
      clear hxe hx
      go_wp2
      all_goals first
        | (go_ret
           refine ⟨ret_bool ?_, HB.out⟩
           rw [← HV.out, nameB, HQ.out, HA.out, show nmC k x = false from nmC_false (by first | omega | (rename_i hz; simp at hz; omega) | (rename_i hy hz; simp at hy; omega))]
           rfl)
        | (go_roundw
           case rel =>
             refine ⟨k + 1, by omega, by simp <;> omega, ?_, rfl⟩
             rw [HQ.out, HA.out, show nmC k x = true from nmC_true (by first | omega | (rename_i hz; simp at hz; omega) | (rename_i hy hz; simp at hy; omega))]
             rfl
           case measure => simp [intOf]; omega)
    · have HE := Lib.hid (show nmR 0 (codes s) = true by rw [HQ.out, nmR_end (by rw [codes_len]; omega)])
      go_wp2
      all_goals
        go_ret
        refine ⟨ret_bool ?_, HB.out⟩
        rw [← HV.out, nameB, HE.out]
        first
          | (rw [show decide (1 ≤ s.size) = true from decide_eq_true (by omega)]; simp; done)
          | (rw [show decide (1 ≤ s.size) = true from decide_eq_true (by omega)]; simp; omega)
          | (rw [show decide (1 ≤ s.size) = false from decide_eq_false (by omega)]; simp)
end Go.Proofs.YtdbiihfoafoljaaGreatDoor
