/-
  Chapter 50: next of the program.
-/
import Derived.Test.YtnbhplhhemkniaaLeaf50
import Derived.Deep.QuietTactic
import Derived.BigQuiet
namespace Go.Proofs.Ytnbhplhhemkniaa
open Go.RowKit
set_option maxRecDepth 100000
set_option maxHeartbeats 1000000
def bestV : Option Nat → Int
  | none => -1
  | some b => b
theorem bestN_no {js : List Jb} {ds : List Int} {day : Int} {k : Nat} {j : Jb} {d : Int} (hj : js[k]? = some j) (hd : ds[k]? = some d) (h : ¬ (d < 0 ∧ j.f ≤ day)) : bestN js ds day (k + 1) = bestN js ds day k := by
  rw [bestN, hj, hd]; simp only [if_neg h]
theorem bestN_first {js : List Jb} {ds : List Int} {day : Int} {k : Nat} {j : Jb} {d : Int} (hj : js[k]? = some j) (hd : ds[k]? = some d) (h : d < 0 ∧ j.f ≤ day) (hb : bestN js ds day k = none) : bestN js ds day (k + 1) = some k := by
  rw [bestN, hj, hd]; simp only [if_pos h, hb]
theorem bestN_more {js : List Jb} {ds : List Int} {day : Int} {k b : Nat} {j jb : Jb} {d : Int} (hj : js[k]? = some j) (hd : ds[k]? = some d) (h : d < 0 ∧ j.f ≤ day) (hb : bestN js ds day k = some b) (hjb : js[b]? = some jb) :
    bestN js ds day (k + 1) = if j.t < jb.t then some k else some b := by
  rw [bestN, hj, hd]; simp only [if_pos h, hb]
  rw [show js.getD b default = jb by rw [List.getD, hjb]; rfl]
def NextR (js : List Jb) (ds : List Int) (day : Int) (w : World) (best i : Value) (wr : World) : Prop := ∃ k : Nat, k ≤ js.length ∧ i = .int .i64 k ∧ best = .int .i64 (bestV (bestN js ds day k)) ∧ Below w.heap.size w wr
theorem next_p (A D : Option Addr) (jc dc : Nat) (js : List Jb) (ds : List Int) (day : Int) (w : World) (hjl : js.length ≤ 400) (hdl : ds.length = js.length) (hra : Rd jbE 2 w w.heap.size A js) (hrd : Rd inE 1 w w.heap.size D ds) :
    Calls Try.prog 22 #[.slice A js.length jc, .slice D js.length dc, .int .i64 day] w fun e w' => e = .returned (.int .i64 (bestV (bestN js ds day js.length))) ∧ Below w.heap.size w w' := by
  have HA := Lib.hid hra
  have HD := Lib.hid hrd
  clear hra hrd
  go_enter Try.func22, Try.ntmps22
  go_wp2_with fail
  go_loopw [7, 12] (NextR js ds day w) (fun _ i _ => js.length - (intOf i).toNat)
  case atStart => exact ⟨0, by omega, rfl, rfl, Below.refl _ _⟩
  case round =>
    obtain ⟨k, hk, rfl, rfl, hB⟩ := hrel
    have HB := Lib.hid hB
    clear hB
    by_cases hlt : k < js.length
    · obtain ⟨z, hz⟩ : ∃ z, js[k]? = some z := ⟨_, List.getElem?_eq_getElem hlt⟩
      obtain ⟨d, hd⟩ : ∃ d, ds[k]? = some d := ⟨_, List.getElem?_eq_getElem (by omega)⟩
      obtain ⟨b, off, rfl, hbb, hcl⟩ := HA.out.at_ HB.out hz
      obtain ⟨db, doff, rfl, hdb, hdc⟩ := HD.out.at_ HB.out hd
      obtain ⟨c0, c1⟩ := jb_cells hcl
      have cd := in_cell hdc
      have hw := cur_new wr (.cells #[.int .i64 z.f, .int .i64 z.t] 43)
      have HW := Lib.hid hw
      have k0 : (wr.alloc (.cells #[.int .i64 z.f, .int .i64 z.t] 43)).cell? ⟨wr.heap.size, 0, none⟩ = some (.int .i64 z.f) := (Blk.new wr 43 [.int .i64 z.f, .int .i64 z.t]).cell 0
      have k1 : (wr.alloc (.cells #[.int .i64 z.f, .int .i64 z.t] 43)).cell? ⟨wr.heap.size, 1, none⟩ = some (.int .i64 z.t) := (Blk.new wr 43 [.int .i64 z.f, .int .i64 z.t]).cell 1
      have hbs := HB.out.size
      have kd : (wr.alloc (.cells #[.int .i64 z.f, .int .i64 z.t] 43)).cell? ⟨db, doff + k, none⟩ = some (.int .i64 d) := (hw.cell (p := ⟨db, doff + k, none⟩) (show db < wr.heap.size by omega)).trans cd
      by_cases g1 : d < 0
      · have gd1 : decide (d < 0) = true := decide_eq_true g1
        by_cases g2 : z.f ≤ day
        · have gd2 : decide (z.f ≤ day) = true := decide_eq_true g2
          cases hbn : bestN js ds day k with
          | none =>
            have HE := Lib.hid (bestN_first hz hd ⟨g1, g2⟩ hbn)
            clear hcl hdc hz hd hw hbn
            unfold bestV
            go_wp2_with fail
            go_quiet (fail)
            go_wp2
            go_roundw
            case rel => exact ⟨k + 1, hlt, by simp, by rw [HE.out]; rfl, cur_step1 HB.out (HW.out.trans ((cur_drew _ _).mono HW.out.size))⟩
            case measure => simp [intOf]; omega
          | some q =>
            have hq := bestN_lt hbn
            obtain ⟨y, hy⟩ : ∃ y, js[q]? = some y := ⟨_, List.getElem?_eq_getElem hq.2⟩
            have HE := Lib.hid (bestN_more hz hd ⟨g1, g2⟩ hbn hy)
            obtain ⟨b', off', e', _, hcy⟩ := HA.out.at_ HB.out hy
            injection e' with e'
            injection e' with e1 e2 _
            subst e1 e2
            obtain ⟨y0, y1⟩ := jb_cells hcy
            have ky : (wr.alloc (.cells #[.int .i64 z.f, .int .i64 z.t] 43)).cell? ⟨b, off + q * 2 + 1, none⟩ = some (.int .i64 y.t) := (hw.cell (p := ⟨b, off + q * 2 + 1, none⟩) (show b < wr.heap.size by omega)).trans y1
            have g0 : decide ((q : Int) < 0) = false := decide_eq_false (by omega)
            have hq1 := hq.1
            have hq2 := hq.2
            clear hcl hdc hz hd hw hbn hcy hy hq
            unfold bestV
            by_cases g3 : z.t < y.t
            · have gd3 : decide (z.t < y.t) = true := decide_eq_true g3
              have HE2 := Lib.hid (show bestN js ds day (k + 1) = some k by rw [HE.out, if_pos g3])
              go_wp2_with fail
              go_quiet (fail)
              go_wp2
              go_roundw
              case rel => exact ⟨k + 1, hlt, by simp, by rw [HE2.out]; rfl, cur_step1 HB.out (HW.out.trans ((cur_drew _ _).mono HW.out.size))⟩
              case measure => simp [intOf]; omega
            · have gd3 : decide (z.t < y.t) = false := decide_eq_false g3
              have HE2 := Lib.hid (show bestN js ds day (k + 1) = some q by rw [HE.out, if_neg g3])
              go_wp2_with fail
              go_quiet (fail)
              go_wp2
              go_roundw
              case rel => exact ⟨k + 1, hlt, by simp, by rw [HE2.out]; rfl, cur_step1 HB.out (HW.out.trans ((cur_drew _ _).mono HW.out.size))⟩
              case measure => simp [intOf]; omega
        · have gd2 : decide (z.f ≤ day) = false := decide_eq_false g2
          obtain ⟨bv, hbv⟩ : ∃ bv, bestV (bestN js ds day k) = bv := ⟨_, rfl⟩
          have HE := Lib.hid (show bestV (bestN js ds day (k + 1)) = bv by rw [bestN_no hz hd (fun h => g2 h.2), hbv])
          rw [hbv]
          clear hcl hdc hz hd hw hbv
          go_wp2_with fail
          go_quiet (fail)
          go_wp2
          go_roundw
          case rel => exact ⟨k + 1, hlt, by simp, by rw [HE.out], cur_step1 HB.out (HW.out.trans ((cur_drew _ _).mono HW.out.size))⟩
          case measure => simp [intOf]; omega
      · have gd1 : decide (d < 0) = false := decide_eq_false g1
        obtain ⟨bv, hbv⟩ : ∃ bv, bestV (bestN js ds day k) = bv := ⟨_, rfl⟩
        have HE := Lib.hid (show bestV (bestN js ds day (k + 1)) = bv by rw [bestN_no hz hd (fun h => g1 h.1), hbv])
        rw [hbv]
        clear hcl hdc hz hd hw hbv
        go_wp2_with fail
        go_quiet (fail)
        go_wp2
        go_roundw
        case rel => exact ⟨k + 1, hlt, by simp, by rw [HE.out], cur_step1 HB.out (HW.out.trans ((cur_drew _ _).mono HW.out.size))⟩
        case measure => simp [intOf]; omega
    · have hke : k = js.length := by omega
      rw [hke]
      clear hke
      go_wp2_with fail
      go_ret
      exact ⟨rfl, HB.out⟩
end Go.Proofs.Ytnbhplhhemkniaa
