/-
  Chapter 50: Room, Inside, Check of the program.
-/
import Derived.Test.YtnbhplhhemkniaaSpec50
import Derived.Test.YtnbhplhhemkniaaRows
import Derived.Test.YtnbhplhhemkniaaBlk
import Derived.LoopTactic
namespace Go.Proofs.Ytnbhplhhemkniaa
open Go.RowKit
set_option maxRecDepth 100000
set_option maxHeartbeats 1000000
theorem ret_bool {a b : Bool} (h : a = b) : Ending.returned (.bool a) = .returned (.bool b) := by rw [h]
theorem ret_int {k : IntKind} {a b : Int} (h : a = b) : Ending.returned (.int k a) = .returned (.int k b) := by rw [h]

def RoomR (f t first : Int) (caps : List Int) (w0 : World) (n i : Value) (wr : World) : Prop := ∃ k : Nat, k ≤ caps.length ∧ i = .int .i64 k ∧ n = .int .i64 (roomF f t 0 first (caps.take k)) ∧ wr = w0
theorem room_p (C : Option Addr) (cc : Nat) (caps : List Int) (f t first : Int) (w : World) (hm : caps.length ≤ 400) (hr : Rd inE 1 w w.heap.size C caps) :
    Calls Try.prog 14 #[.agg #[.int .i64 f, .int .i64 t], .int .i64 first, .slice C caps.length cc] w fun e w' => e = .returned (.int .i64 (roomT f t first caps)) ∧ Below w.heap.size w w' := by
  obtain ⟨v, hv⟩ : ∃ v, roomT f t first caps = v := ⟨_, rfl⟩
  rw [hv]
  unfold roomT at hv
  by_cases h1 : first < 0
  · rw [if_pos (.inl h1)] at hv
    subst hv
    clear hr
    go_enter Try.func14, Try.ntmps14
    go_wp2_with fail
    go_ret
    exact ⟨rfl, cur_new _ _⟩
  by_cases h2 : 109572 < first
  · rw [if_pos (.inr h2)] at hv
    subst hv
    clear hr
    go_enter Try.func14, Try.ntmps14
    go_wp2_with fail
    go_ret
    exact ⟨rfl, cur_new _ _⟩
  rw [if_neg (by omega)] at hv
  have HV := Lib.hid hv
  have HRA := Lib.hid (hr.to (cur_new w (.cells #[.int .i64 f, .int .i64 t] 30)))
  have k0 : (w.alloc (.cells #[.int .i64 f, .int .i64 t] 30)).cell? ⟨w.heap.size, 0, none⟩ = some (.int .i64 f) := (Blk.new w 30 [.int .i64 f, .int .i64 t]).cell 0
  have k1 : (w.alloc (.cells #[.int .i64 f, .int .i64 t] 30)).cell? ⟨w.heap.size, 1, none⟩ = some (.int .i64 t) := (Blk.new w 30 [.int .i64 f, .int .i64 t]).cell 1
  have hbw := cur_new w (.cells #[.int .i64 f, .int .i64 t] 30)
  have HBW := Lib.hid hbw
  clear hv hr hbw
  go_enter Try.func14, Try.ntmps14
  go_wp2_with fail
  generalize w.alloc (.cells #[.int .i64 f, .int .i64 t] 30) = w0 at *
  go_loopw [7, 19] (RoomR f t first caps w0) (fun _ i _ => caps.length - (intOf i).toNat)
  case atStart => exact ⟨0, by omega, rfl, rfl, rfl⟩
  case round =>
    obtain ⟨k, hk, rfl, rfl, rfl⟩ := hrel
    by_cases hlt : k < caps.length
    · obtain ⟨c, hc⟩ : ∃ c, caps[k]? = some c := ⟨_, List.getElem?_eq_getElem hlt⟩
      obtain ⟨b, off, rfl, hbb, hcl⟩ := HRA.out k c hc
      have cl := in_cell hcl
      obtain ⟨n, hn⟩ : ∃ n, roomF f t 0 first (caps.take k) = n := ⟨_, rfl⟩
      have HNX := Lib.hid (roomF_take hc hn)
      rw [hn]
      clear hcl hc hn
      by_cases g1 : f ≤ first + k
      · by_cases g2 : first + k ≤ t
        · have HE := HNX.out
          rw [if_pos ⟨g1, g2⟩] at HE
          have HEH := Lib.hid HE
          clear HE
          go_wp2_with fail
          go_roundw
          case rel => exact ⟨k + 1, hlt, by simp, by rw [HEH.out]; exact congrArg (Value.int .i64) (show wrap64 (n + c) = IntKind.i64.wrap (n + c) from by unfold wrap64; exact (IntKind.wrap_i64 (n + c)).symm), rfl⟩
          case measure => simp [intOf]; omega
        · have HE := HNX.out
          rw [if_neg (by omega)] at HE
          have HEH := Lib.hid HE
          clear HE
          go_wp2_with fail
          go_roundw
          case rel => exact ⟨k + 1, hlt, by simp, by rw [HEH.out], rfl⟩
          case measure => simp [intOf]; omega
      · have HE := HNX.out
        rw [if_neg (by omega)] at HE
        have HEH := Lib.hid HE
        clear HE
        go_wp2_with fail
        go_roundw
        case rel => exact ⟨k + 1, hlt, by simp, by rw [HEH.out], rfl⟩
        case measure => simp [intOf]; omega
    · have hT : caps.take k = caps := List.take_of_length_le (by omega)
      rw [hT, HV.out]
      clear hT
      go_wp2_with fail
      go_ret
      exact ⟨rfl, HBW.out⟩

def InsR (js : List Jb) (f t : Int) (w : World) (n i : Value) (wr : World) : Prop := ∃ k : Nat, k ≤ js.length ∧ i = .int .i64 k ∧ n = .int .i64 (insT (js.take k) f t : Nat) ∧ Below w.heap.size w wr ∧ wr.cell? ⟨w.heap.size, 0, none⟩ = some (.int .i64 f) ∧ wr.cell? ⟨w.heap.size, 1, none⟩ = some (.int .i64 t) ∧ w.heap.size < wr.heap.size
theorem inside_p (A : Option Addr) (jc : Nat) (js : List Jb) (f t : Int) (w : World) (hm : js.length ≤ 4000000) (hr : Rd jbE 2 w w.heap.size A js) :
    Calls Try.prog 16 #[.slice A js.length jc, .agg #[.int .i64 f, .int .i64 t]] w fun e w' => e = .returned (.int .i64 (insT js f t : Nat)) ∧ Below w.heap.size w w' := by
  have HR := Lib.hid hr
  clear hr
  have k0 : (w.alloc (.cells #[.int .i64 f, .int .i64 t] 30)).cell? ⟨w.heap.size, 0, none⟩ = some (.int .i64 f) := (Blk.new w 30 [.int .i64 f, .int .i64 t]).cell 0
  have k1 : (w.alloc (.cells #[.int .i64 f, .int .i64 t] 30)).cell? ⟨w.heap.size, 1, none⟩ = some (.int .i64 t) := (Blk.new w 30 [.int .i64 f, .int .i64 t]).cell 1
  have HBW := Lib.hid (cur_new w (.cells #[.int .i64 f, .int .i64 t] 30))
  have HSZ := Lib.hid (show w.heap.size < (w.alloc (.cells #[.int .i64 f, .int .i64 t] 30)).heap.size by simp)
  have HK0 := Lib.hid k0
  have HK1 := Lib.hid k1
  clear k0 k1
  go_enter Try.func16, Try.ntmps16
  go_wp2_with fail
  go_loopw [5, 10] (InsR js f t w) (fun _ i _ => js.length - (intOf i).toNat)
  case atStart => exact ⟨0, by omega, rfl, rfl, HBW.out, HK0.out, HK1.out, HSZ.out⟩
  case round =>
    clear HBW HSZ HK0 HK1
    obtain ⟨k, hk, rfl, rfl, hB, k0, k1, hsz⟩ := hrel
    have HB := Lib.hid hB
    have HK := Lib.hid k0
    have HK' := Lib.hid k1
    have HSZ := Lib.hid hsz
    clear hB
    by_cases hlt : k < js.length
    · obtain ⟨z, hz⟩ : ∃ z, js[k]? = some z := ⟨_, List.getElem?_eq_getElem hlt⟩
      obtain ⟨b, off, rfl, hbb, hcl⟩ := HR.out.at_ HB.out hz
      obtain ⟨c0, c1⟩ := jb_cells hcl
      have hle : insT (js.take k) f t ≤ k := by have := insT_le (js.take k) f t; rw [List.length_take] at this; omega
      obtain ⟨n, hn⟩ : ∃ n, insT (js.take k) f t = n := ⟨_, rfl⟩
      have HNX := Lib.hid (insT_take (f := f) (t := t) hz)
      rw [hn] at HNX hle ⊢
      have hw := cur_new wr (.cells #[.int .i64 z.f, .int .i64 z.t] 43)
      have HW := Lib.hid hw
      have j0 : (wr.alloc (.cells #[.int .i64 z.f, .int .i64 z.t] 43)).cell? ⟨w.heap.size, 0, none⟩ = some (.int .i64 f) := (hw.cell (p := ⟨w.heap.size, 0, none⟩) hsz).trans k0
      have j1 : (wr.alloc (.cells #[.int .i64 z.f, .int .i64 z.t] 43)).cell? ⟨w.heap.size, 1, none⟩ = some (.int .i64 t) := (hw.cell (p := ⟨w.heap.size, 1, none⟩) hsz).trans k1
      have HJ0 := Lib.hid j0
      have HJ1 := Lib.hid j1
      clear hcl hz hn hw k0 k1
      by_cases g1 : f ≤ z.f
      · by_cases g2 : z.t ≤ t
        · have HEH := Lib.hid (show insT (js.take (k + 1)) f t = n + 1 by rw [HNX.out]; unfold inJ; simp [g1, g2])
          go_wp2_with fail
          go_roundw
          case rel => exact ⟨k + 1, hlt, by simp, by rw [HEH.out]; simp, cur_step1 HB.out HW.out, HJ0.out, HJ1.out, by simp; omega⟩
          case measure => simp [intOf]; omega
        · have HEH := Lib.hid (show insT (js.take (k + 1)) f t = n by rw [HNX.out]; unfold inJ; simp [g2])
          go_wp2_with fail
          go_roundw
          case rel => exact ⟨k + 1, hlt, by simp, by rw [HEH.out], cur_step1 HB.out HW.out, HJ0.out, HJ1.out, by simp; omega⟩
          case measure => simp [intOf]; omega
      · have HEH := Lib.hid (show insT (js.take (k + 1)) f t = n by rw [HNX.out]; unfold inJ; simp [g1])
        go_wp2_with fail
        go_roundw
        case rel => exact ⟨k + 1, hlt, by simp, by rw [HEH.out], cur_step1 HB.out HW.out, HJ0.out, HJ1.out, by simp; omega⟩
        case measure => simp [intOf]; omega
    · have hT : js.take k = js := List.take_of_length_le (by omega)
      rw [hT]
      clear hT
      go_wp2_with fail
      go_ret
      exact ⟨rfl, HB.out⟩

def CapR (caps : List Int) (w : World) (i : Value) (wr : World) : Prop := ∃ k : Nat, k ≤ caps.length ∧ i = .int .i64 k ∧ (caps.take k).all capOk = true ∧ wr = w
def JobR (js : List Jb) (first n : Int) (w : World) (i : Value) (wr : World) : Prop := ∃ k : Nat, k ≤ js.length ∧ i = .int .i64 k ∧ jErr first n js = jErr first n (js.drop k) ∧ Below w.heap.size w wr
theorem cap_bad {caps : List Int} {k : Nat} {c : Int} (h : caps[k]? = some c) (hb : capOk c = false) : caps.all capOk = false := by
  rw [Bool.eq_false_iff]; intro hh
  have := List.all_eq_true.1 hh c (List.mem_of_getElem? h)
  rw [hb] at this; cases this
theorem cap_next {caps : List Int} {k : Nat} {c : Int} (h : caps[k]? = some c) (hb : capOk c = true) (ha : (caps.take k).all capOk = true) : (caps.take (k + 1)).all capOk = true := by
  rw [List.take_add_one, h, Option.toList_some, List.all_append, ha, List.all_cons, hb]; rfl
theorem check_p (A C : Option Addr) (jc cc : Nat) (js : List Jb) (caps : List Int) (first : Int) (w : World) (hjl : js.length ≤ 4000000) (hcl : caps.length ≤ 4000000) (hra : Rd jbE 2 w w.heap.size A js) (hrc : Rd inE 1 w w.heap.size C caps) :
    Calls Try.prog 11 #[.slice A js.length jc, .int .i64 first, .slice C caps.length cc] w fun e w' => e = .returned (.int .i64 (ckT js first caps)) ∧ Below w.heap.size w w' := by
  obtain ⟨v, hv⟩ : ∃ v, ckT js first caps = v := ⟨_, rfl⟩
  rw [hv]
  unfold ckT at hv
  by_cases h1 : 400 < js.length ∨ 400 < caps.length
  · rw [if_pos h1] at hv
    subst hv
    have H1 := Lib.hid h1
    clear h1 hra hrc
    go_enter Try.func11, Try.ntmps11
    go_wp2_with fail
    all_goals first
      | (go_ret; exact ⟨rfl, Below.refl _ _⟩)
      | (exfalso; have := H1.out; simp_all; omega)
  rw [if_neg h1] at hv
  have n1 : ¬ (400 : Int) < js.length := by omega
  have n2 : ¬ (400 : Int) < caps.length := by omega
  by_cases h2 : first < 0 ∨ 109172 < first
  · rw [if_pos h2] at hv
    subst hv
    have H2 := Lib.hid h2
    clear h2 hra hrc
    go_enter Try.func11, Try.ntmps11
    go_wp2_with fail
    all_goals first
      | (go_ret; exact ⟨rfl, Below.refl _ _⟩)
      | (exfalso; have := H2.out; simp_all; omega)
  rw [if_neg h2] at hv
  have n3 : ¬ first < 0 := by omega
  have n4 : ¬ 109172 < first := by omega
  have d1 : decide ((400 : Int) < js.length) = false := decide_eq_false n1
  have d2 : decide ((400 : Int) < caps.length) = false := decide_eq_false n2
  have d3 : decide (first < 0) = false := decide_eq_false n3
  have d4 : decide (109172 < first) = false := decide_eq_false n4
  have HV := Lib.hid hv
  have HA := Lib.hid hra
  have HC := Lib.hid hrc
  clear hv hra hrc h1 h2
  go_enter Try.func11, Try.ntmps11
  go_wp2_with fail
  go_loopw [29] (CapR caps w) (fun i _ => caps.length - (intOf i).toNat)
  case atStart => exact ⟨0, by omega, rfl, rfl, rfl⟩
  case round =>
    obtain ⟨k, hk, rfl, hall, rfl⟩ := hrel
    have HALL := Lib.hid hall
    clear hall
    by_cases hlt : k < caps.length
    · obtain ⟨c, hc⟩ : ∃ c, caps[k]? = some c := ⟨_, List.getElem?_eq_getElem hlt⟩
      obtain ⟨b, off, rfl, hbb, hcl⟩ := HC.out k c hc
      have cl := in_cell hcl
      cases hb : capOk c
      · have HBAD := Lib.hid (cap_bad hc hb)
        have hcc : c < 0 ∨ 20 < c := by unfold capOk at hb; simp at hb; omega
        have HCC := Lib.hid hcc
        clear hcl hc hb hcc
        go_wp2_with fail
        all_goals first
          | (go_ret
             have hh := HV.out
             rw [HBAD.out] at hh
             exact ⟨ret_int hh, Below.refl _ _⟩)
          | (exfalso; have := HCC.out; simp_all; omega)
      · have HNX := Lib.hid (cap_next hc hb HALL.out)
        have hcc : 0 ≤ c ∧ c ≤ 20 := by unfold capOk at hb; simpa using hb
        obtain ⟨q1, q2⟩ := hcc
        clear hcl hc hb
        go_wp2_with fail
        go_roundw
        case rel => exact ⟨k + 1, hlt, by simp, HNX.out, rfl⟩
        case measure => simp [intOf]; omega
    · obtain rfl : k = caps.length := by omega
      have hh := HV.out
      rw [show caps.all capOk = true by have := HALL.out; rwa [List.take_length] at this, if_pos rfl] at hh
      have HH := Lib.hid hh
      clear hh
      go_wp2_with fail
      go_loopw [42] (JobR js first caps.length wr) (fun i _ => js.length - (intOf i).toNat)
      case atStart => exact ⟨0, by omega, rfl, rfl, Below.refl _ _⟩
      case round =>
        obtain ⟨k, hk, rfl, hj, hB⟩ := hrel
        have HJ := Lib.hid hj
        have HB := Lib.hid hB
        clear hj hB HC HALL
        by_cases hlt : k < js.length
        · obtain ⟨z, hz⟩ : ∃ z, js[k]? = some z := ⟨_, List.getElem?_eq_getElem hlt⟩
          obtain ⟨b, off, rfl, hbb, hcl⟩ := HA.out.at_ HB.out hz
          obtain ⟨c0, c1⟩ := jb_cells hcl
          have HD := Lib.hid (HJ.out.trans (jErr_drop hz))
          clear hcl hz
          by_cases g1 : z.t < z.f
          · have HE := Lib.hid (show jErr first caps.length js = 1 by rw [HD.out, if_pos g1])
            go_wp2_with fail
            go_ret
            exact ⟨ret_int (HE.out.symm.trans HH.out), cur_step1 HB.out (cur_new _ _)⟩
          · by_cases g2 : z.f < first
            · have HE := Lib.hid (show jErr first caps.length js = 2 by rw [HD.out, if_neg g1, if_pos (.inl g2)])
              go_wp2_with fail
              go_ret
              exact ⟨ret_int (HE.out.symm.trans HH.out), cur_step1 HB.out (cur_new _ _)⟩
            · by_cases g3 : first + caps.length - 1 < z.t
              · have HE := Lib.hid (show jErr first caps.length js = 2 by rw [HD.out, if_neg g1, if_pos (.inr g3)])
                go_wp2_with fail
                go_ret
                exact ⟨ret_int (HE.out.symm.trans HH.out), cur_step1 HB.out (cur_new _ _)⟩
              · have HE := Lib.hid (show jErr first caps.length js = jErr first caps.length (js.drop (k + 1)) by rw [HD.out, if_neg g1, if_neg (by omega)])
                go_wp2_with fail
                go_roundw
                case rel => exact ⟨k + 1, hlt, by simp, HE.out, cur_step1 HB.out (cur_new _ _)⟩
                case measure => simp [intOf]; omega
        · have hT : js.drop k = [] := List.drop_of_length_le (by omega)
          have HE := Lib.hid (show jErr first caps.length js = 0 by rw [HJ.out, hT]; rfl)
          clear hT
          go_wp2_with fail
          go_ret
          exact ⟨ret_int (HE.out.symm.trans HH.out), HB.out⟩
end Go.Proofs.Ytnbhplhhemkniaa
