/-
  Chapter 47: the example of the chapter.
-/
import Derived.Test.YtkmkdknjpnkkpaaGreatDoorPar47
import Derived.Test.YtkmkdknjpnkkpaaGreatDoorVal47
set_option linter.unusedSimpArgs false
set_option linter.unusedVariables false
namespace Go.Proofs.YtkmkdknjpnkkpaaGreatDoor
open Go.RowKit
set_option maxRecDepth 100000
set_option maxHeartbeats 1000000
def exO : List Oc := [⟨0, false, 8⟩, ⟨7, false, 8⟩]
def exS : ByteArray := ⟨#[48, 58, 56, 32, 55, 58, 56]⟩
def exW : List ByteArray := [⟨#[48, 58, 56]⟩, ⟨#[55, 58, 56]⟩]
def exT : Tk := ⟨1, 95, 100, exO, [[4, 12], [6, 10]]⟩
theorem ex_count : Lib.countB exS ⟨#[32]⟩ + 1 = exW.length := by decide +kernel
theorem ex_split : Lib.splitB ⟨#[32]⟩ 0 (Lib.countB exS ⟨#[32]⟩) exS = exW := by decide +kernel
theorem dd_one {u : Nat} (h : u < 10) : Lib.decDigits u = [UInt8.ofNat (48 + u)] := by rw [Lib.decDigits, dif_pos h]
theorem ex_join : Lib.join ((exO.map wordO).map (·.data.toList)) [32] = exS.data.toList := by
  simp only [exO, List.map_cons, List.map_nil, wordO, dD]
  rw [show Lib.decDigits (Int.toNat 0) = [48] from dd_one (by decide), show Lib.decDigits (Int.toNat 8) = [56] from dd_one (by decide), show Lib.decDigits (Int.toNat 7) = [55] from dd_one (by decide)]
  decide +kernel
theorem ex_pw1 : PW ⟨#[48, 58, 56]⟩ ⟨0, false, 8⟩ ⟨#[48]⟩ ⟨#[56]⟩ ⟨#[48]⟩ true := ⟨by decide, by decide +kernel, by decide +kernel, by decide +kernel, by decide, by decide +kernel, by decide +kernel, by decide +kernel, by decide +kernel, by decide +kernel, by decide +kernel, by decide, by decide⟩
theorem ex_pw2 : PW ⟨#[55, 58, 56]⟩ ⟨7, false, 8⟩ ⟨#[55]⟩ ⟨#[56]⟩ ⟨#[55]⟩ true := ⟨by decide, by decide +kernel, by decide +kernel, by decide +kernel, by decide, by decide +kernel, by decide +kernel, by decide +kernel, by decide +kernel, by decide +kernel, by decide +kernel, by decide, by decide⟩
theorem ex_pw : ∀ (k : Nat) (x : ByteArray), exW[k]? = some x → ∃ (o : Oc) (a b a' : ByteArray) (f : Bool), exO[k]? = some o ∧ PW x o a b a' f := by
  intro k x hx
  match k, hx with
  | 0, hx => injection hx with hx; subst hx; exact ⟨_, _, _, _, _, rfl, ex_pw1⟩
  | 1, hx => injection hx with hx; subst hx; exact ⟨_, _, _, _, _, rfl, ex_pw2⟩
theorem ex_now : NowT exT 95 1 = (96, 0) := by decide +kernel
theorem ex_val : ValT exT 95 1 = (128, 0) := by decide +kernel
theorem ex_val2 : ValT exT 100 1 = (192, 0) := by decide +kernel
theorem ex_stop : StopT exT 95 1 = (false, 0) := by decide +kernel
theorem ex_sm : Sm exT := ⟨by decide, by decide, by decide⟩
theorem awake_d (mx : Int) (w : World) (hm : w.cell? ⟨0, 0, none⟩ = some (.int .i64 mx)) : Calls Tryz.prog 7 #[] w fun e w' => e = .returned (.bool true) ∧ Below w.heap.size w w' := by
  go_enter Tryz.func7, Tryz.ntmps7
  go_wp2_with fail
  refine (cparse_p exS exW exO mx w (by decide) ex_split ex_count rfl ex_pw (by decide +kernel) (by rw [ex_join]) (by rw [ex_join]; decide) hm).mono ?_
  rintro e w1 ⟨dv, rfl, hown, hb1⟩
  obtain ⟨DA, dc, rfl, hrd, _⟩ := OwnL.rd ocE_len hown
  have HRD := Lib.hid hrd
  have HB1 := Lib.hid hb1
  have l1 := hb1.size
  clear hrd hb1 hown hm
  go_wp2_with fail
  have h1 := Blk.new w1 2 [.int .i64 4, .int .i64 12]
  have hA := cur_new w1 (.cells [.int .i64 4, .int .i64 12].toArray 2)
  obtain ⟨a1, ha1⟩ : ∃ a1, a1 = w1.alloc (.cells [.int .i64 4, .int .i64 12].toArray 2) := ⟨_, rfl⟩
  rw [← ha1] at h1 hA
  have h2 := Blk.new a1 2 [.int .i64 6, .int .i64 10]
  have hB := cur_new a1 (.cells [.int .i64 6, .int .i64 10].toArray 2)
  have s1 : a1.heap.size = w1.heap.size + 1 := by rw [ha1]; simp
  obtain ⟨a2, ha2⟩ : ∃ a2, a2 = a1.alloc (.cells [.int .i64 6, .int .i64 10].toArray 2) := ⟨_, rfl⟩
  rw [← ha2] at h2 hB
  have s2 : a2.heap.size = w1.heap.size + 1 + 1 := by rw [ha2]; simp [s1]
  have h3 := Blk.new a2 43 [.slice (some ⟨w1.heap.size, 0, none⟩) 2 2, .slice (some ⟨w1.heap.size + 1, 0, none⟩) 2 2]
  have hC := cur_new a2 (.cells [.slice (some ⟨w1.heap.size, 0, none⟩) 2 2, .slice (some ⟨w1.heap.size + 1, 0, none⟩) 2 2].toArray 43)
  obtain ⟨a3, ha3⟩ : ∃ a3, a3 = a2.alloc (.cells [.slice (some ⟨w1.heap.size, 0, none⟩) 2 2, .slice (some ⟨w1.heap.size + 1, 0, none⟩) 2 2].toArray 43) := ⟨_, rfl⟩
  rw [← ha3] at h3 hC
  have s3 : a3.heap.size = w1.heap.size + 1 + 1 + 1 := by rw [ha3]; simp [s2]
  have h4 := Blk.new a3 25 [.int .i64 1, .int .i64 95, .int .i64 100, .slice DA exO.length dc, .slice (some ⟨w1.heap.size + 1 + 1, 0, none⟩) 2 2]
  have hD := cur_new a3 (.cells [.int .i64 1, .int .i64 95, .int .i64 100, .slice DA exO.length dc, .slice (some ⟨w1.heap.size + 1 + 1, 0, none⟩) 2 2].toArray 25)
  obtain ⟨a4, ha4⟩ : ∃ a4, a4 = a3.alloc (.cells [.int .i64 1, .int .i64 95, .int .i64 100, .slice DA exO.length dc, .slice (some ⟨w1.heap.size + 1 + 1, 0, none⟩) 2 2].toArray 25) := ⟨_, rfl⟩
  rw [← ha4] at h4 hD
  have hw4 : (((w1.alloc (Obj.cells #[.int .i64 4, .int .i64 12] 2)).alloc (Obj.cells #[.int .i64 6, .int .i64 10] 2)).alloc (Obj.cells #[.slice (some ⟨w1.heap.size, 0, none⟩) 2 2, .slice (some ⟨w1.heap.size + 1, 0, none⟩) 2 2] 43)).alloc (Obj.cells #[.int .i64 1, .int .i64 95, .int .i64 100, .slice DA exO.length dc, .slice (some ⟨w1.heap.size + 1 + 1, 0, none⟩) 2 2] 25) = a4 := by rw [ha4, ha3, ha2, ha1]
  rw [hw4]
  rw [s3] at h4
  rw [s2] at h3
  rw [s1] at h2
  have hb4 := cur_step1 (cur_step1 (cur_step1 hA hB) hC) hD
  have q1 := ((h1.to hB).to hC).to hD
  have q2 := (h2.to hC).to hD
  have q3 := h3.to hD
  have s4 := h4.lt
  have HK := Lib.hid (show Blk a4 (w1.heap.size + 1 + 1 + 1) 25 (tkL exT DA (some ⟨w1.heap.size + 1 + 1, 0, none⟩) dc 2) from h4)
  have HD := Lib.hid (show Rd ocE 3 a4 a4.heap.size DA exT.d from HRD.out.to hb4)
  have HW := Lib.hid (show Rd2 a4 a4.heap.size (some ⟨w1.heap.size + 1 + 1, 0, none⟩) exT.win from by
    intro k x hx
    match k, hx with
    | 0, hx =>
      injection hx with hx
      subst hx
      exact ⟨_, _, rfl, q3.lt, _, 2, q3.cell 0, fun j y hy => ⟨_, _, rfl, q1.lt, fun i u hu => by
        match j, hy with
        | 0, hy => injection hy with hy; subst hy; match i, hu with | 0, hu => injection hu with hu; subst hu; exact q1.cell 0
        | 1, hy => injection hy with hy; subst hy; match i, hu with | 0, hu => injection hu with hu; subst hu; exact q1.cell 1⟩⟩
    | 1, hx =>
      injection hx with hx
      subst hx
      exact ⟨_, _, rfl, q3.lt, _, 2, q3.cell 1, fun j y hy => ⟨_, _, rfl, q2.lt, fun i u hu => by
        match j, hy with
        | 0, hy => injection hy with hy; subst hy; match i, hu with | 0, hu => injection hu with hu; subst hu; exact q2.cell 0
        | 1, hy => injection hy with hy; subst hy; match i, hu with | 0, hu => injection hu with hu; subst hu; exact q2.cell 1⟩⟩)
  have HB4 := Lib.hid (cur_step1 HB1.out hb4)
  clear ha1 ha2 ha3 ha4 hw4 h1 h2 h3 h4 hA hB hC hD q1 q2 q3 hb4 s1 s2 s3
  have HD4 := HD
  have HW4 := HW
  have HK4 := HK
  clear HD HW HK
  refine (Now_p exT DA (some ⟨w1.heap.size + 1 + 1, 0, none⟩) dc 2 95 1 a4 ex_sm HD4.out HW4.out).mono ?_
  rw [ex_now]
  rintro e w5 ⟨rfl, hb5⟩
  have HB5 := Lib.hid (cur_step1 HB4.out hb5)
  have HD5 := Lib.hid (HD4.out.to hb5)
  have HW5 := Lib.hid (HW4.out.to hb5)
  have HK5 := Lib.hid (HK4.out.to hb5)
  have t0 : w5.cell? ⟨w1.heap.size + 1 + 1 + 1, 0, none⟩ = some (.int .i64 1) := HK5.out.cell 0
  have t1 : w5.cell? ⟨w1.heap.size + 1 + 1 + 1, 1, none⟩ = some (.int .i64 95) := HK5.out.cell 1
  have t2 : w5.cell? ⟨w1.heap.size + 1 + 1 + 1, 2, none⟩ = some (.int .i64 100) := HK5.out.cell 2
  have t3 : w5.cell? ⟨w1.heap.size + 1 + 1 + 1, 3, none⟩ = some (.slice DA exO.length dc) := HK5.out.cell 3
  have t4 : w5.cell? ⟨w1.heap.size + 1 + 1 + 1, 4, none⟩ = some (.slice (some ⟨w1.heap.size + 1 + 1, 0, none⟩) 2 2) := HK5.out.cell 4
  clear hb5
  go_wp2_with fail
  clear t0 t1 t2 t3 t4
  refine (Value_p exT DA (some ⟨w1.heap.size + 1 + 1, 0, none⟩) dc 2 95 1 w5 ex_sm HD5.out HW5.out).mono ?_
  rw [ex_val]
  rintro e w6 ⟨rfl, hb6⟩
  have HB6 := Lib.hid (cur_step1 HB5.out hb6)
  have HD6 := Lib.hid (HD5.out.to hb6)
  have HW6 := Lib.hid (HW5.out.to hb6)
  have HK6 := Lib.hid (HK5.out.to hb6)
  have t0 : w6.cell? ⟨w1.heap.size + 1 + 1 + 1, 0, none⟩ = some (.int .i64 1) := HK6.out.cell 0
  have t1 : w6.cell? ⟨w1.heap.size + 1 + 1 + 1, 1, none⟩ = some (.int .i64 95) := HK6.out.cell 1
  have t2 : w6.cell? ⟨w1.heap.size + 1 + 1 + 1, 2, none⟩ = some (.int .i64 100) := HK6.out.cell 2
  have t3 : w6.cell? ⟨w1.heap.size + 1 + 1 + 1, 3, none⟩ = some (.slice DA exO.length dc) := HK6.out.cell 3
  have t4 : w6.cell? ⟨w1.heap.size + 1 + 1 + 1, 4, none⟩ = some (.slice (some ⟨w1.heap.size + 1 + 1, 0, none⟩) 2 2) := HK6.out.cell 4
  clear hb6
  go_wp2_with fail
  clear t0 t1 t2 t3 t4
  refine (Value_p exT DA (some ⟨w1.heap.size + 1 + 1, 0, none⟩) dc 2 100 1 w6 ex_sm HD6.out HW6.out).mono ?_
  rw [ex_val2]
  rintro e w7 ⟨rfl, hb7⟩
  have HB7 := Lib.hid (cur_step1 HB6.out hb7)
  have HD7 := Lib.hid (HD6.out.to hb7)
  have HW7 := Lib.hid (HW6.out.to hb7)
  have HK7 := Lib.hid (HK6.out.to hb7)
  have t0 : w7.cell? ⟨w1.heap.size + 1 + 1 + 1, 0, none⟩ = some (.int .i64 1) := HK7.out.cell 0
  have t1 : w7.cell? ⟨w1.heap.size + 1 + 1 + 1, 1, none⟩ = some (.int .i64 95) := HK7.out.cell 1
  have t2 : w7.cell? ⟨w1.heap.size + 1 + 1 + 1, 2, none⟩ = some (.int .i64 100) := HK7.out.cell 2
  have t3 : w7.cell? ⟨w1.heap.size + 1 + 1 + 1, 3, none⟩ = some (.slice DA exO.length dc) := HK7.out.cell 3
  have t4 : w7.cell? ⟨w1.heap.size + 1 + 1 + 1, 4, none⟩ = some (.slice (some ⟨w1.heap.size + 1 + 1, 0, none⟩) 2 2) := HK7.out.cell 4
  clear hb7
  go_wp2_with fail
  clear t0 t1 t2 t3 t4
  refine (Stop_p exT DA (some ⟨w1.heap.size + 1 + 1, 0, none⟩) dc 2 95 1 w7 ex_sm HD7.out HW7.out).mono ?_
  rw [ex_stop]
  rintro e w8 ⟨rfl, hb8⟩
  have HB8 := Lib.hid (cur_step1 HB7.out hb8)
  have HD8 := Lib.hid (HD7.out.to hb8)
  have HW8 := Lib.hid (HW7.out.to hb8)
  have HK8 := Lib.hid (HK7.out.to hb8)
  have t0 : w8.cell? ⟨w1.heap.size + 1 + 1 + 1, 0, none⟩ = some (.int .i64 1) := HK8.out.cell 0
  have t1 : w8.cell? ⟨w1.heap.size + 1 + 1 + 1, 1, none⟩ = some (.int .i64 95) := HK8.out.cell 1
  have t2 : w8.cell? ⟨w1.heap.size + 1 + 1 + 1, 2, none⟩ = some (.int .i64 100) := HK8.out.cell 2
  have t3 : w8.cell? ⟨w1.heap.size + 1 + 1 + 1, 3, none⟩ = some (.slice DA exO.length dc) := HK8.out.cell 3
  have t4 : w8.cell? ⟨w1.heap.size + 1 + 1 + 1, 4, none⟩ = some (.slice (some ⟨w1.heap.size + 1 + 1, 0, none⟩) 2 2) := HK8.out.cell 4
  clear hb8
  go_wp2_with fail
  go_ret
  exact ⟨rfl, HB8.out⟩
end Go.Proofs.YtkmkdknjpnkkpaaGreatDoor
