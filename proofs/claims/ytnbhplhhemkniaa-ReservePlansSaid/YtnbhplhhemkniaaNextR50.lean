/-
  Chapter 50: next of the reference.
-/
import Derived.Test.YtnbhplhhemkniaaNext50
import Derived.Deep.QuietTactic
import Derived.BigQuiet
namespace Go.Proofs.Ytnbhplhhemkniaa
open Go.RowKit
set_option maxRecDepth 100000
set_option maxHeartbeats 1000000
def bE (x : Bool) : List Value := [.bool x]
theorem bE_len (x : Bool) : (bE x).length = 1 := rfl
theorem b_cell {w : World} {b off k : Nat} {x : Bool} (h : ∀ j u, (bE x)[j]? = some u → w.cell? ⟨b, off + k * 1 + j, none⟩ = some u) : w.cell? ⟨b, off + k, none⟩ = some (.bool x) := by
  have := h 0 _ rfl
  simpa using this
/-- What the reference keeps of the days so far: which jobs are done, and their days. -/
def doneOf (ds : List Int) : List Bool := ds.map fun d => !decide (d < 0)
def daysOf (ds : List Int) : List Int := ds.map fun d => if d < 0 then 0 else d
theorem doneOf_set (ds : List Int) (k : Nat) {d : Int} (h : 0 ≤ d) : (doneOf ds).set k true = doneOf (ds.set k d) := by
  unfold doneOf
  rw [List.map_set, decide_eq_false (show ¬ d < 0 by omega)]
  rfl
theorem daysOf_set (ds : List Int) (k : Nat) {d : Int} (h : 0 ≤ d) : (daysOf ds).set k d = daysOf (ds.set k d) := by
  unfold daysOf
  rw [List.map_set, if_neg (show ¬ d < 0 by omega)]
theorem doneOf_new (n : Nat) : doneOf (List.replicate n (-1)) = List.replicate n false := by unfold doneOf; rw [List.map_replicate]; rfl
theorem daysOf_new (n : Nat) : daysOf (List.replicate n (-1)) = List.replicate n 0 := by unfold daysOf; rw [List.map_replicate]; rfl
theorem doneOf_at {ds : List Int} {k : Nat} {d : Int} (h : ds[k]? = some d) : (doneOf ds)[k]? = some (!decide (d < 0)) := by unfold doneOf; rw [List.getElem?_map, h]; rfl
theorem daysOf_at {ds : List Int} {k : Nat} {d : Int} (h : ds[k]? = some d) : (daysOf ds)[k]? = some (if d < 0 then 0 else d) := by unfold daysOf; rw [List.getElem?_map, h]; rfl
def NexRR (js : List Jb) (ds : List Int) (day : Int) (w : World) (best i : Value) (wr : World) : Prop := ∃ k : Nat, k ≤ js.length ∧ i = .int .i64 k ∧ best = .int .i64 (bestV (bestN js ds day k)) ∧ Below w.heap.size w wr
theorem next_r (A D : Option Addr) (jc dc : Nat) (js : List Jb) (ds : List Int) (day : Int) (w : World) (hjl : js.length ≤ 400) (hdl : ds.length = js.length) (hra : Rd jbE 2 w w.heap.size A js) (hrd : Rd bE 1 w w.heap.size D (doneOf ds)) :
    Calls Try.prog 24 #[.slice A js.length jc, .slice D js.length dc, .int .i64 day] w fun e w' => e = .returned (.int .i64 (bestV (bestN js ds day js.length))) ∧ Below w.heap.size w w' := by
  have HA := Lib.hid hra
  have HD := Lib.hid hrd
  clear hra hrd
  go_enter Try.func24, Try.ntmps24
  go_wp2_with fail
  go_loopw [7, 12] (NexRR js ds day w) (fun _ i _ => js.length - (intOf i).toNat)
  case atStart => exact ⟨0, by omega, rfl, rfl, Below.refl _ _⟩
  case round =>
    obtain ⟨k, hk, rfl, rfl, hB⟩ := hrel
    have HB := Lib.hid hB
    clear hB
    by_cases hlt : k < js.length
    · obtain ⟨z, hz⟩ : ∃ z, js[k]? = some z := ⟨_, List.getElem?_eq_getElem hlt⟩
      obtain ⟨d, hd⟩ : ∃ d, ds[k]? = some d := ⟨_, List.getElem?_eq_getElem (by omega)⟩
      obtain ⟨b, off, rfl, hbb, hcl⟩ := HA.out.at_ HB.out hz
      obtain ⟨db, doff, rfl, hdb, hdc⟩ := HD.out.at_ HB.out (doneOf_at hd)
      obtain ⟨c0, c1⟩ := jb_cells hcl
      have cd0 := b_cell hdc
      have hw := cur_new wr (.cells #[.int .i64 z.f, .int .i64 z.t] 43)
      have HW := Lib.hid hw
      have k0 : (wr.alloc (.cells #[.int .i64 z.f, .int .i64 z.t] 43)).cell? ⟨wr.heap.size, 0, none⟩ = some (.int .i64 z.f) := (Blk.new wr 43 [.int .i64 z.f, .int .i64 z.t]).cell 0
      have k1 : (wr.alloc (.cells #[.int .i64 z.f, .int .i64 z.t] 43)).cell? ⟨wr.heap.size, 1, none⟩ = some (.int .i64 z.t) := (Blk.new wr 43 [.int .i64 z.f, .int .i64 z.t]).cell 1
      have hbs := HB.out.size
      by_cases g1 : d < 0
      · have kd : (wr.alloc (.cells #[.int .i64 z.f, .int .i64 z.t] 43)).cell? ⟨db, doff + k, none⟩ = some (.bool false) := (hw.cell (p := ⟨db, doff + k, none⟩) (show db < wr.heap.size by omega)).trans (by rw [cd0, decide_eq_true g1]; rfl)
        by_cases g2 : z.f ≤ day
        · have gd2 : decide (z.f ≤ day) = true := decide_eq_true g2
          cases hbn : bestN js ds day k with
          | none =>
            have HE := Lib.hid (bestN_first hz hd ⟨g1, g2⟩ hbn)
            clear hcl hdc cd0 hz hd hw hbn
            unfold bestV
            go_wp2_with fail
            go_quiet (fail)
            go_wp2
            go_roundw
            case rel => exact ⟨k + 1, hlt, by simp, by rw [HE.out]; rfl, cur_step1 HB.out (HW.out.trans ((cur_drew _ _).mono HW.out.size))⟩
            case measure => simp [intOf]; omega
          | some q =>
            have hq := bestN_lt hbn
            obtain ⟨y, hy⟩ : ∃ y, js[q]? = some y := ⟨_, List.getElem?_eq_getElem hq.2⟩
            have HE := Lib.hid (bestN_more hz hd ⟨g1, g2⟩ hbn hy)
            obtain ⟨b', off', e', _, hcy⟩ := HA.out.at_ HB.out hy
            injection e' with e'
            injection e' with e1 e2 _
            subst e1 e2
            obtain ⟨y0, y1⟩ := jb_cells hcy
            have ky : (wr.alloc (.cells #[.int .i64 z.f, .int .i64 z.t] 43)).cell? ⟨b, off + q * 2 + 1, none⟩ = some (.int .i64 y.t) := (hw.cell (p := ⟨b, off + q * 2 + 1, none⟩) (show b < wr.heap.size by omega)).trans y1
            have g0 : decide ((q : Int) < 0) = false := decide_eq_false (by omega)
            have hq1 := hq.1
            have hq2 := hq.2
            clear hcl hdc cd0 hz hd hw hbn hcy hy hq
            unfold bestV
            by_cases g3 : z.t < y.t
            · have gd3 : decide (z.t < y.t) = true := decide_eq_true g3
              have HE2 := Lib.hid (show bestN js ds day (k + 1) = some k by rw [HE.out, if_pos g3])
              go_wp2_with fail
              go_quiet (fail)
              go_wp2
              go_roundw
              case rel => exact ⟨k + 1, hlt, by simp, by rw [HE2.out]; rfl, cur_step1 HB.out (HW.out.trans ((cur_drew _ _).mono HW.out.size))⟩
              case measure => simp [intOf]; omega
            · have gd3 : decide (z.t < y.t) = false := decide_eq_false g3
              have HE2 := Lib.hid (show bestN js ds day (k + 1) = some q by rw [HE.out, if_neg g3])
              go_wp2_with fail
              go_quiet (fail)
              go_wp2
              go_roundw
              case rel => exact ⟨k + 1, hlt, by simp, by rw [HE2.out]; rfl, cur_step1 HB.out (HW.out.trans ((cur_drew _ _).mono HW.out.size))⟩
              case measure => simp [intOf]; omega
        · have gd2 : decide (z.f ≤ day) = false := decide_eq_false g2
          obtain ⟨bv, hbv⟩ : ∃ bv, bestV (bestN js ds day k) = bv := ⟨_, rfl⟩
          have HE := Lib.hid (show bestV (bestN js ds day (k + 1)) = bv by rw [bestN_no hz hd (fun h => g2 h.2), hbv])
          rw [hbv]
          clear hcl hdc cd0 hz hd hw hbv
          go_wp2_with fail
          go_quiet (fail)
          go_wp2
          go_roundw
          case rel => exact ⟨k + 1, hlt, by simp, by rw [HE.out], cur_step1 HB.out (HW.out.trans ((cur_drew _ _).mono HW.out.size))⟩
          case measure => simp [intOf]; omega
      · have kd : (wr.alloc (.cells #[.int .i64 z.f, .int .i64 z.t] 43)).cell? ⟨db, doff + k, none⟩ = some (.bool true) := (hw.cell (p := ⟨db, doff + k, none⟩) (show db < wr.heap.size by omega)).trans (by rw [cd0, decide_eq_false g1]; rfl)
        obtain ⟨bv, hbv⟩ : ∃ bv, bestV (bestN js ds day k) = bv := ⟨_, rfl⟩
        have HE := Lib.hid (show bestV (bestN js ds day (k + 1)) = bv by rw [bestN_no hz hd (fun h => g1 h.1), hbv])
        rw [hbv]
        clear hcl hdc cd0 hz hd hw hbv
        go_wp2_with fail
        go_quiet (fail)
        go_wp2
        go_roundw
        case rel => exact ⟨k + 1, hlt, by simp, by rw [HE.out], cur_step1 HB.out (HW.out.trans ((cur_drew _ _).mono HW.out.size))⟩
        case measure => simp [intOf]; omega
    · have hke : k = js.length := by omega
      rw [hke]
      clear hke
      go_wp2_with fail
      go_ret
      exact ⟨rfl, HB.out⟩
end Go.Proofs.Ytnbhplhhemkniaa
