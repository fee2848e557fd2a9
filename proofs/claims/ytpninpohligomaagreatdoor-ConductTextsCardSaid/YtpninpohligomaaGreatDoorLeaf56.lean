/-
  Chapter 56: the small functions of the program and of the reference.
-/
import Derived.Test.YtpninpohligomaaGreatDoorPlain56
import Derived.Test.YtpninpohligomaaGreatDoorBlk
set_option linter.unusedSimpArgs false
set_option linter.unusedVariables false
namespace Go.Proofs.YtpninpohligomaaGreatDoor
open Go.RowKit

set_option maxRecDepth 100000
set_option maxHeartbeats 1000000
theorem isDay_p (n : Int) (v : Bool) (w : World) (hv : isDayB n = v) : Calls Tryz.prog 45 #[.int .i64 n] w fun e w' => e = .returned (.bool v) ∧ w = w' := by
  have HV := Lib.hid hv
  clear hv
  go_enter Tryz.func45, Tryz.ntmps45
  go_wp2
  all_goals
    go_ret
    exact ⟨ret_bool (by rw [← HV.out]; simp [isDayB] <;> omega), rfl⟩
theorem day_r (n : Int) (v : Bool) (w : World) (hv : isDayB n = v) : Calls Tryz.prog 54 #[.int .i64 n] w fun e w' => e = .returned (.bool v) ∧ w = w' := by
  have HV := Lib.hid hv
  clear hv
  go_enter Tryz.func54, Tryz.ntmps54
  go_wp2
  all_goals
    go_ret
    exact ⟨ret_bool (by rw [← HV.out]; simp [isDayB] <;> omega), rfl⟩
theorem nan_i (n : Int) (w : World) : Calls Tryz.prog 74 #[.int .i64 n] w fun e w' => e = .returned (.bool false) ∧ w = w' := by
  go_enter Tryz.func74, Tryz.ntmps74
  go_wp2
  go_ret
  exact ⟨ret_bool (by simp), rfl⟩
def cmpI (x y : Int) : Int := if x < y then -1 else if y < x then 1 else 0
theorem comp_i (x y : Int) (w : World) : Calls Tryz.prog 50 #[.int .i64 x, .int .i64 y] w fun e w' => e = .returned (.int .i64 (cmpI x y)) ∧ w = w' := by
  obtain ⟨r, hr⟩ : ∃ r, cmpI x y = r := ⟨_, rfl⟩
  have HR := Lib.hid hr
  rw [hr]
  clear hr
  go_enter Tryz.func50, Tryz.ntmps50
  go_wp2_with (go_at_call 74; refine (nan_i _ _).mono ?_; rintro e w1 ⟨rfl, rfl⟩)
  all_goals
    go_ret
    exact ⟨ret_int (by rw [← HR.out]; unfold cmpI; first | (rw [if_pos (by omega)]; done) | (rw [if_neg (by omega), if_pos (by omega)]; done) | (rw [if_neg (by omega), if_neg (by omega)])), rfl⟩
theorem entry2 (w : World) (c1 c2 : List Value) (e1 e2 : TypeId) : Blk ((w.alloc (.cells c1.toArray e1)).alloc (.cells c2.toArray e2)) w.heap.size e1 c1 ∧ Blk ((w.alloc (.cells c1.toArray e1)).alloc (.cells c2.toArray e2)) (w.heap.size + 1) e2 c2 ∧ Below w.heap.size w ((w.alloc (.cells c1.toArray e1)).alloc (.cells c2.toArray e2)) :=
  ⟨(Blk.new w e1 c1).to (cur_new _ _), two_new w _ _, cur_two w _ _⟩
theorem or_f (x y r : Int) (g : Nat) (w : World) (h0 : w.cell? ⟨g, 0, none⟩ = some (.int .i64 x)) (h1 : w.cell? ⟨g, 1, none⟩ = some (.int .i64 y)) (hr : (if x = 0 then y else x) = r) :
    Calls Tryz.prog 49 #[.slice (some ⟨g, 0, none⟩) 2 2] w fun e w' => e = .returned (.int .i64 r) ∧ w = w' := by
  have HR := Lib.hid hr
  clear hr
  go_enter Tryz.func49, Tryz.ntmps49
  go_wp2
  go_loopw [8] (fun i wr => ∃ k : Nat, k ≤ 2 ∧ i = .int .i64 k ∧ (1 ≤ k → x = 0) ∧ (2 ≤ k → y = 0) ∧ wr = w) (fun i _ => 2 - (intOf i).toNat)
  case atStart => exact ⟨0, by omega, rfl, by omega, by omega, rfl⟩
  case round =>
    obtain ⟨k, hk, rfl, hx, hy, rfl⟩ := hrel
    match k, hk with
    | 0, _ =>
      by_cases hx0 : x = 0
      · go_wp2
        go_roundw
        case rel => exact ⟨1, by omega, rfl, fun _ => hx0, by omega, trivial⟩
        case measure => simp [intOf]
      · go_wp2
        go_ret
        exact ⟨ret_int (by rw [← HR.out, if_neg hx0]), rfl⟩
    | 1, _ =>
      have hx0 := hx (by omega)
      by_cases hy0 : y = 0
      · go_wp2
        go_roundw
        case rel => exact ⟨2, by omega, rfl, fun _ => hx0, fun _ => hy0, trivial⟩
        case measure => simp [intOf]
      · go_wp2
        go_ret
        exact ⟨ret_int (by rw [← HR.out, if_pos hx0]), rfl⟩
    | 2, _ =>
      have hx0 := hx (by omega)
      have hy0 := hy (by omega)
      go_wp2
      go_ret
      exact ⟨ret_int (by rw [← HR.out, if_pos hx0, hy0]), rfl⟩
theorem of_cells {w : World} {b off k : Nat} {y : Of} (h : ∀ j u, (ofE y)[j]? = some u → w.cell? ⟨b, off + k * 4 + j, none⟩ = some u) : w.cell? ⟨b, off + k * 4, none⟩ = some (.int .i64 y.id) ∧ w.cell? ⟨b, off + k * 4 + 1, none⟩ = some (.string y.p) ∧ w.cell? ⟨b, off + k * 4 + 2, none⟩ = some (.int .i64 y.d) ∧ w.cell? ⟨b, off + k * 4 + 3, none⟩ = some (.int .i64 y.n) :=
  ⟨by simpa using h 0 _ rfl, h 1 _ rfl, h 2 _ rfl, h 3 _ rfl⟩
theorem pts_rng {p : ByteArray} {d : Int} {l : List Of} (h : ∀ z ∈ l, 1 ≤ z.n ∧ z.n ≤ 8) : 0 ≤ ptsL p d l ∧ ptsL p d l ≤ 8 * l.length := by
  induction l with
  | nil => simp [ptsL]
  | cons z l ih =>
    have h1 := h z (List.mem_cons_self ..)
    have h2 := ih fun y hy => h y (List.mem_cons_of_mem _ hy)
    simp only [ptsL, List.length_cons]
    split <;> omega
theorem ptsL_snoc {p : ByteArray} {d : Int} {l : List Of} {k : Nat} {z : Of} (h : l[k]? = some z) : ptsL p d (l.take (k + 1)) = ptsL p d (l.take k) + if cntO p d z then z.n else 0 := by
  rw [List.take_add_one, h, ptsL_append]
  simp [ptsL]
end Go.Proofs.YtpninpohligomaaGreatDoor
