/-
  Chapter 56: the text of a book, of the program and of the reference.
-/
import Derived.Test.YtpninpohligomaaGreatDoorSpT56
import Derived.Test.YtpninpohligomaaGreatDoorNumT
import Derived.Test.YtpninpohligomaaGreatDoorPadT
import Derived.Test.YtpninpohligomaaGreatDoorCk56
import Derived.Test.YtpninpohligomaaGreatDoorCkR56
import Derived.Test.YtpninpohligomaaGreatDoorBlk
import Derived.Test.YtpninpohligomaaGreatDoorRlast
import Derived.RegionTactic
import Derived.BigRegion
import Derived.Deep.RegionHeld3
set_option linter.unusedSimpArgs false
set_option linter.unusedVariables false
namespace Go.Proofs.YtpninpohligomaaGreatDoor
open Go.RowKit
set_option maxRecDepth 100000
set_option maxHeartbeats 2000000
theorem mk_size (l : List UInt8) : (⟨l.toArray⟩ : ByteArray).size = l.length := by show l.toArray.size = _; simp
theorem dec_p (n : Int) (h0 : 0 ≤ n) (h1 : n ≤ 9223372036854775807) (w : World) (hw : LibW w) :
    Calls Tryz.prog 29 #[.int .i64 n] w fun e w' => e = .returned (.string (dcA n)) ∧ Below w.heap.size w w' := by
  have HW := Lib.hid hw
  have hi : Lib.itoa n = dcB n := by unfold Lib.itoa dcB; rw [if_neg (by omega)]
  have HI := Lib.hid (show (⟨(Lib.itoa n).toArray⟩ : ByteArray) = dcA n by unfold dcA; rw [hi])
  clear hw hi
  go_enter Tryz.func29, Tryz.ntmps29
  go_wp2_with fail
  refine (Tryz.fmt_p n (by omega) (by omega) _ HW.out.tab).mono ?_
  rw [HI.out]
  rintro e w1 ⟨rfl, hb1⟩
  have HB := Lib.hid hb1
  clear hb1
  go_wp2_with fail
  go_ret
  exact ⟨rfl, HB.out⟩
theorem dec_r (n : Int) (h0 : 0 ≤ n) (h1 : n ≤ 1000000000000000000) (w : World) :
    Calls Tryz.prog 32 #[.int .i64 n] w fun e w' => e = .returned (.string (dcA n)) ∧ Below w.heap.size w w' := by
  obtain ⟨m, rfl⟩ : ∃ m : Nat, n = m := ⟨n.toNat, by omega⟩
  unfold dcA dcB
  rw [Int.toNat_natCast]
  exact decimal_r m (by omega) w
/-! The reference. -/
def TrR56 (l : List Of) (w : World) (s i : Value) (wr : World) : Prop := ∃ k : Nat, k ≤ l.length ∧ i = .int .i64 k ∧ s = .string ⟨(txtC (l.take k)).toArray⟩ ∧ Below w.heap.size w wr
theorem row_cat (T : List UInt8) (z : Of) : (⟨T.toArray⟩ : ByteArray) ++ (((((((dcA z.id ++ (⟨#[32]⟩ : ByteArray)) ++ z.p) ++ (⟨#[32]⟩ : ByteArray)) ++ dcA z.d) ++ (⟨#[32]⟩ : ByteArray)) ++ dcA z.n) ++ (⟨#[10]⟩ : ByteArray)) = ⟨(T ++ rowC z).toArray⟩ := by
  apply ByteArray.ext
  apply Array.toList_inj.1
  rw [← rowC_cat]
  simp
theorem text_r (A : Option Addr) (c : Nat) (l : List Of) (w : World) (hl : l.length ≤ 2000) (hr : Rd ofE 4 w w.heap.size A l) (hlc : l.length ≤ c) (hsz : ∀ z ∈ l, z.p.size ≤ 9223372036854775807) :
    Calls Tryz.prog 10 #[.slice A l.length c] w fun e w' => e = .returned (.tuple #[.string ⟨(TxtC l).1.toArray⟩, .int .i64 (TxtC l).2]) ∧ Below w.heap.size w w' := by
  obtain ⟨e0, he0⟩ : ∃ e0, ckO l = e0 := ⟨_, rfl⟩
  have HR := Lib.hid hr
  have HSZ := Lib.hid hsz
  clear hr hsz
  by_cases h0 : e0 ≠ 0
  · have e1 : (e0 != 0) = true := by simpa using h0
    have HV := Lib.hid (show TxtC l = ([], e0) by unfold TxtC; rw [he0, if_pos h0])
    clear h0
    go_enter Tryz.func10, Tryz.ntmps10
    go_wp2_with fail
    refine (ck_r A c l e0 _ hl HR.out hlc HSZ.out he0).mono ?_
    rintro e w1 ⟨rfl, hb1⟩
    have HB := Lib.hid hb1
    clear hb1
    go_wp2_with fail
    go_ret2
    rw [HV.out]
    exact ⟨rfl, HB.out⟩
  have h0' : e0 = 0 := by simpa using h0
  subst h0'
  clear h0
  have HV := Lib.hid (show TxtC l = (txtC l, 0) by unfold TxtC; rw [he0, if_neg (by simp)])
  obtain ⟨_, hok⟩ := okO_of he0
  have HOK := Lib.hid hok
  have HX := Lib.hid he0
  clear hok he0
  go_enter Tryz.func10, Tryz.ntmps10
  go_wp2_with fail
  refine (ck_r A c l 0 _ hl HR.out hlc HSZ.out HX.out).mono ?_
  rintro e w1 ⟨rfl, hb1⟩
  have HB := Lib.hid hb1
  clear hb1
  go_wp2_with fail
  go_loopw [5, 15] (TrR56 l w) (fun _ i _ => l.length - (intOf i).toNat)
  case atStart => exact ⟨0, by omega, rfl, rfl, HB.out⟩
  case round =>
    obtain ⟨k, hk, rfl, rfl, hb⟩ := hrel
    clear HB
    have HB := Lib.hid hb
    clear hb
    by_cases hlt : k < l.length
    · obtain ⟨z, hz⟩ : ∃ z, l[k]? = some z := ⟨_, List.getElem?_eq_getElem hlt⟩
      obtain ⟨b, off, rfl, hbb, hcl⟩ := HR.out.at_ HB.out hz
      have c0 : wr.cell? ⟨b, off + k * 4, none⟩ = some (.int .i64 z.id) := hcl 0 _ rfl
      have c1 : wr.cell? ⟨b, off + k * 4 + 1, none⟩ = some (.string z.p) := hcl 1 _ rfl
      have c2 : wr.cell? ⟨b, off + k * 4 + 2, none⟩ = some (.int .i64 z.d) := hcl 2 _ rfl
      have c3 : wr.cell? ⟨b, off + k * 4 + 3, none⟩ = some (.int .i64 z.n) := hcl 3 _ rfl
      have hoz := HOK.out z (List.mem_of_getElem? hz)
      have HT := Lib.hid (txtC_take hz)
      have HTL := Lib.hid (show (txtC (l.take k)).length ≤ 128000 by
        have := txtC_len (l := l.take k) (fun x hx => HOK.out x (List.mem_of_mem_take hx))
        rw [List.length_take] at this
        omega)
      have hrl := rowC_len hoz
      obtain ⟨⟨q1, q2⟩, q3, q4, q5, q6⟩ := hoz
      have hdd : 0 ≤ z.d ∧ z.d ≤ 1000000 := by unfold isDayB at q4; simp at q4; omega
      have HCAT := Lib.hid (row_cat (txtC (l.take k)) z)
      have hps : z.p.size ≤ 16 := by unfold nameB at q3; simp at q3; omega
      obtain ⟨zi, zp, zd, zn⟩ := z
      simp only [] at c0 c1 c2 c3 q1 q2 q5 q6 hdd hps HCAT HT
      have d1 : (dcA zi).size ≤ 13 := by unfold dcA; rw [mk_size]; exact dcB_len (n := zi) q2
      have d2 : (dcA zd).size ≤ 13 := by unfold dcA; rw [mk_size]; exact dcB_len (n := zd) (by omega)
      have d3 : (dcA zn).size ≤ 13 := by unfold dcA; rw [mk_size]; exact dcB_len (n := zn) (by omega)
      obtain ⟨S1, hS1⟩ : ∃ S1, dcA zi = S1 := ⟨_, rfl⟩
      obtain ⟨S2, hS2⟩ : ∃ S2, dcA zd = S2 := ⟨_, rfl⟩
      obtain ⟨S3, hS3⟩ : ∃ S3, dcA zn = S3 := ⟨_, rfl⟩
      obtain ⟨T, hT⟩ : ∃ T : ByteArray, (⟨(txtC (l.take k)).toArray⟩ : ByteArray) = T := ⟨_, rfl⟩
      have dT : T.size ≤ 128000 := by rw [← hT, mk_size]; exact HTL.out
      rw [hS1, hS2, hS3, hT] at HCAT
      rw [hS1] at d1
      rw [hS2] at d2
      rw [hS3] at d3
      rw [hT]
      have HS1 := Lib.hid hS1
      have HS2 := Lib.hid hS2
      have HS3 := Lib.hid hS3
      have p1 : (9223372036854775807 < S1.size + 1) = False := by simp; omega
      have p2 : (9223372036854775807 < S1.size + 1 + zp.size) = False := by simp; omega
      have p3 : (9223372036854775807 < S1.size + 1 + zp.size + 1) = False := by simp; omega
      have p4 : (9223372036854775807 < S1.size + 1 + zp.size + 1 + S2.size) = False := by simp; omega
      have p5 : (9223372036854775807 < S1.size + 1 + zp.size + 1 + S2.size + 1) = False := by simp; omega
      have p6 : (9223372036854775807 < S1.size + 1 + zp.size + 1 + S2.size + 1 + S3.size) = False := by simp; omega
      have p7 : (9223372036854775807 < S1.size + 1 + zp.size + 1 + S2.size + 1 + S3.size + 1) = False := by simp; omega
      have p8 : (9223372036854775807 < T.size + (S1.size + 1 + zp.size + 1 + S2.size + 1 + S3.size + 1)) = False := by simp; omega
      clear hcl hz hS1 hS2 hS3 hT d1 d2 d3 dT hps
      go_wp2_with fail
      obtain ⟨CS, hCS⟩ : ∃ CS : List (Nat × Nat × Value), CS = [(wr.heap.size, 0, .int .i64 zi), (wr.heap.size, 1, .string zp), (wr.heap.size, 2, .int .i64 zd), (wr.heap.size, 3, .int .i64 zn)] := ⟨_, rfl⟩
      have K3 : Keep wr (wr.alloc (.cells #[.int .i64 zi, .string zp, .int .i64 zd, .int .i64 zn] 32)) CS := by rw [hCS]; exact Keep.start (cur_new _ _) (by simp)
      have k0 : ∀ s : Wd wr CS, s.w.cell? ⟨wr.heap.size, 0, none⟩ = some (.int .i64 zi) := fun s => s.h.get (by simp [hCS])
      have k1 : ∀ s : Wd wr CS, s.w.cell? ⟨wr.heap.size, 1, none⟩ = some (.string zp) := fun s => s.h.get (by simp [hCS])
      have k2 : ∀ s : Wd wr CS, s.w.cell? ⟨wr.heap.size, 2, none⟩ = some (.int .i64 zd) := fun s => s.h.get (by simp [hCS])
      have k3 : ∀ s : Wd wr CS, s.w.cell? ⟨wr.heap.size, 3, none⟩ = some (.int .i64 zn) := fun s => s.h.get (by simp [hCS])
      have hex : ∀ s : Wd wr CS, ∃ s' : Wd wr CS, s.w = s'.w := fun s => ⟨s, rfl⟩
      haveI hne : Nonempty (Wd wr CS) := ⟨⟨_, K3⟩⟩
      have HCS := Lib.hid hCS
      clear hCS
      refine wp_region_wd wr CS (by kernel_rfl) (by kernel_rfl) K3.drew ?_
      repeat (go_big_quiet_step ((go_at_call 32; refine (dec_r _ (by omega) (by omega) _).mono ?_; rintro e w9 ⟨rfl, hb9⟩; (first | rw [HS1.out] | rw [HS2.out] | rw [HS3.out]); exact ⟨rfl, ⟨w9, (Wd.h _).to hb9⟩, rfl⟩)))
      refine wpQuiet_nil ?_
      rintro w9 ⟨s9, hs9⟩
      have HB9 := Lib.hid (show Below w.heap.size w w9 by rw [hs9]; exact cur_step1 HB.out s9.h.1)
      clear hs9 s9 k0 k1 k2 k3 hex hne K3 HCS
      (try simp only [])
      go_wp2_with fail
      go_roundw
      case rel => exact ⟨k + 1, hlt, by simp, by rw [HT.out]; exact congrArg Value.string HCAT.out, HB9.out⟩
      case measure => simp [intOf]; omega
    · have hke : k = l.length := by omega
      subst hke
      go_wp2_with fail
      go_ret2
      rw [HV.out, List.take_length]
      exact ⟨rfl, HB.out⟩
/-! The program. -/
def TpR56 (l : List Of) (w : World) (b : Nat) (i : Value) (wr : World) : Prop := ∃ k : Nat, k ≤ l.length ∧ i = .int .i64 k ∧ Bld b b (txtC (l.take k)) wr ∧ Below w.heap.size w wr
theorem text_p (A : Option Addr) (c : Nat) (l : List Of) (w : World) (hl : l.length ≤ 2000) (hr : Rd ofE 4 w w.heap.size A l) (hsz : ∀ z ∈ l, z.p.size ≤ 9223372036854775807) (hW : LibW w) :
    Calls Tryz.prog 9 #[.slice A l.length c] w fun e w' => e = .returned (.tuple #[.string ⟨(TxtC l).1.toArray⟩, .int .i64 (TxtC l).2]) ∧ Below w.heap.size w w' := by
  obtain ⟨e0, he0⟩ : ∃ e0, ckO l = e0 := ⟨_, rfl⟩
  have HR := Lib.hid hr
  have HSZ := Lib.hid hsz
  have HLW := Lib.hid hW
  clear hr hsz hW
  by_cases h0 : e0 ≠ 0
  · have e1 : (e0 != 0) = true := by simpa using h0
    have HV := Lib.hid (show TxtC l = ([], e0) by unfold TxtC; rw [he0, if_pos h0])
    clear h0
    go_enter Tryz.func9, Tryz.ntmps9
    go_wp2_with fail
    refine (ck_p A c l e0 _ hl HR.out HSZ.out he0).mono ?_
    rintro e w1 ⟨rfl, hb1⟩
    have HB := Lib.hid hb1
    clear hb1
    go_wp2_with fail
    go_ret2
    rw [HV.out]
    exact ⟨rfl, HB.out⟩
  have h0' : e0 = 0 := by simpa using h0
  subst h0'
  clear h0
  have HV := Lib.hid (show TxtC l = (txtC l, 0) by unfold TxtC; rw [he0, if_neg (by simp)])
  obtain ⟨_, hok⟩ := okO_of he0
  have HOK := Lib.hid hok
  have HX := Lib.hid he0
  clear hok he0
  go_enter Tryz.func9, Tryz.ntmps9
  go_wp2_with fail
  refine (ck_p A c l 0 _ hl HR.out HSZ.out HX.out).mono ?_
  rintro e w1 ⟨rfl, hb1⟩
  have HB := Lib.hid hb1
  have hbn := Bld.new w1
  have HB2 := Lib.hid (cur_step1 hb1 (cur_new w1 (.cells #[.pointer none, .slice none 0 0] 67)))
  have HBN := Lib.hid hbn
  have hBs := HB.out.size
  clear hb1 hbn
  go_wp2_with fail
  generalize hbb : w1.heap.size = b at *
  go_loopw [15] (TpR56 l w b) (fun i _ => l.length - (intOf i).toNat)
  case atStart => exact ⟨0, by omega, rfl, HBN.out, HB2.out⟩
  case round =>
    obtain ⟨k, hk, rfl, hbl, hb⟩ := hrel
    clear HB HB2 HBN
    have HB := Lib.hid hb
    have HBL := Lib.hid hbl
    have HLWr := Lib.hid (HLW.out.to hb)
    obtain ⟨_, hblt⟩ := hbl.lt
    clear hb hbl
    by_cases hlt : k < l.length
    · obtain ⟨z, hz⟩ : ∃ z, l[k]? = some z := ⟨_, List.getElem?_eq_getElem hlt⟩
      obtain ⟨rb, off, rfl, hrbb, hcl⟩ := HR.out.at_ HB.out hz
      have c0 : wr.cell? ⟨rb, off + k * 4, none⟩ = some (.int .i64 z.id) := hcl 0 _ rfl
      have c1 : wr.cell? ⟨rb, off + k * 4 + 1, none⟩ = some (.string z.p) := hcl 1 _ rfl
      have c2 : wr.cell? ⟨rb, off + k * 4 + 2, none⟩ = some (.int .i64 z.d) := hcl 2 _ rfl
      have c3 : wr.cell? ⟨rb, off + k * 4 + 3, none⟩ = some (.int .i64 z.n) := hcl 3 _ rfl
      have hoz := HOK.out z (List.mem_of_getElem? hz)
      have HT := Lib.hid (txtC_take hz)
      have HTL := Lib.hid (show (txtC (l.take k)).length ≤ 128000 by
        have := txtC_len (l := l.take k) (fun x hx => HOK.out x (List.mem_of_mem_take hx))
        rw [List.length_take] at this
        omega)
      have hrl := rowC_len hoz
      obtain ⟨⟨q1, q2⟩, q3, q4, q5, q6⟩ := hoz
      have hdd : 0 ≤ z.d ∧ z.d ≤ 1000000 := by unfold isDayB at q4; simp at q4; omega
      have HCAT := Lib.hid (rowC_cat z)
      have hps : z.p.size ≤ 16 := by unfold nameB at q3; simp at q3; omega
      obtain ⟨zi, zp, zd, zn⟩ := z
      simp only [] at c0 c1 c2 c3 q1 q2 q5 q6 hdd hps HCAT HT
      have d1 : (dcA zi).size ≤ 13 := by unfold dcA; rw [mk_size]; exact dcB_len (n := zi) q2
      have d2 : (dcA zd).size ≤ 13 := by unfold dcA; rw [mk_size]; exact dcB_len (n := zd) (by omega)
      have d3 : (dcA zn).size ≤ 13 := by unfold dcA; rw [mk_size]; exact dcB_len (n := zn) (by omega)
      obtain ⟨S1, hS1⟩ : ∃ S1, dcA zi = S1 := ⟨_, rfl⟩
      obtain ⟨S2, hS2⟩ : ∃ S2, dcA zd = S2 := ⟨_, rfl⟩
      obtain ⟨S3, hS3⟩ : ∃ S3, dcA zn = S3 := ⟨_, rfl⟩
      rw [hS1, hS2, hS3] at HCAT
      rw [hS1] at d1
      rw [hS2] at d2
      rw [hS3] at d3
      have HS1 := Lib.hid hS1
      have HS2 := Lib.hid hS2
      have HS3 := Lib.hid hS3
      have p1 : (9223372036854775807 < S1.size + 1) = False := by simp; omega
      have p2 : (9223372036854775807 < S1.size + 1 + zp.size) = False := by simp; omega
      have p3 : (9223372036854775807 < S1.size + 1 + zp.size + 1) = False := by simp; omega
      have p4 : (9223372036854775807 < S1.size + 1 + zp.size + 1 + S2.size) = False := by simp; omega
      have p5 : (9223372036854775807 < S1.size + 1 + zp.size + 1 + S2.size + 1) = False := by simp; omega
      have p6 : (9223372036854775807 < S1.size + 1 + zp.size + 1 + S2.size + 1 + S3.size) = False := by simp; omega
      have p7 : (9223372036854775807 < S1.size + 1 + zp.size + 1 + S2.size + 1 + S3.size + 1) = False := by simp; omega
      have HDD := Lib.hid (And.intro d1 (And.intro d2 (And.intro d3 hps)))
      clear hcl hz hS1 hS2 hS3 d1 d2 d3 hps
      go_wp2_with fail
      obtain ⟨CS, hCS⟩ : ∃ CS : List (Nat × Nat × Value), CS = [(wr.heap.size, 0, .int .i64 zi), (wr.heap.size, 1, .string zp), (wr.heap.size, 2, .int .i64 zd), (wr.heap.size, 3, .int .i64 zn)] := ⟨_, rfl⟩
      have K3 : Keep wr (wr.alloc (.cells #[.int .i64 zi, .string zp, .int .i64 zd, .int .i64 zn] 32)) CS := by rw [hCS]; exact Keep.start (cur_new _ _) (by simp)
      have k0 : ∀ s : Wd wr CS, s.w.cell? ⟨wr.heap.size, 0, none⟩ = some (.int .i64 zi) := fun s => s.h.get (by simp [hCS])
      have k1 : ∀ s : Wd wr CS, s.w.cell? ⟨wr.heap.size, 1, none⟩ = some (.string zp) := fun s => s.h.get (by simp [hCS])
      have k2 : ∀ s : Wd wr CS, s.w.cell? ⟨wr.heap.size, 2, none⟩ = some (.int .i64 zd) := fun s => s.h.get (by simp [hCS])
      have k3 : ∀ s : Wd wr CS, s.w.cell? ⟨wr.heap.size, 3, none⟩ = some (.int .i64 zn) := fun s => s.h.get (by simp [hCS])
      have hex : ∀ s : Wd wr CS, ∃ s' : Wd wr CS, s.w = s'.w := fun s => ⟨s, rfl⟩
      haveI hne : Nonempty (Wd wr CS) := ⟨⟨_, K3⟩⟩
      have HCS := Lib.hid hCS
      clear hCS
      refine wp_region_lastL (C := fun w' => ∃ s : Wd wr CS, w' = s.w) (by simp) (by kernel_rfl) (by kernel_rfl) (by kernel_rfl) ⟨⟨_, K3.drew⟩, rfl⟩ ?_
      simp only [List.dropLast_cons_cons, List.dropLast_singleton, List.getLast_cons_cons, List.getLast_singleton]
      repeat (go_big_quiet_step ((go_at_call 29; refine (dec_p _ (by omega) (by omega) _ (HLWr.out.to (Wd.h _).1)).mono ?_; rintro e w9 ⟨rfl, hb9⟩; (first | rw [HS1.out] | rw [HS2.out] | rw [HS3.out]); exact ⟨rfl, ⟨w9, (Wd.h _).to hb9⟩, rfl⟩)))
      refine wpQuiet_nil ?_
      rintro w9 ⟨s9, hs9⟩
      have hb9 : Below wr.heap.size wr w9 := by rw [hs9]; exact s9.h.1
      have HB9 := Lib.hid (cur_step1 HB.out hb9)
      have HBL9 := Lib.hid (HBL.out.to hb9)
      have l9 := hb9.size
      clear hs9 s9 k0 k1 k2 k3 hex hne K3 HCS hb9
      go_simp
      refine (Tryz.ws_p b b (txtC (l.take k)) _ w9 HBL9.out (by have h1 := HTL.out; obtain ⟨h2, h3, h4, h5⟩ := HDD.out; simp only [ByteArray.size_append]; show _ + (S1.size + 1 + zp.size + 1 + S2.size + 1 + S3.size + 1) ≤ _; omega) (by omega)).mono ?_
      rintro e w6 ⟨rfl, hbl6, hb6, hok6⟩
      rw [HCAT.out] at hbl6
      have HBL6 := Lib.hid hbl6
      have HB6 := Lib.hid (HB9.out.trans (hb6.mono (by omega)))
      clear hbl6 hb6 hok6
      (try simp only [])
      go_wp2_with fail
      go_roundw
      case rel => exact ⟨k + 1, hlt, by simp, by rw [HT.out]; exact HBL6.out, HB6.out⟩
      case measure => simp [intOf]; omega
    · have hke : k = l.length := by omega
      subst hke
      go_wp2_with fail
      refine (Tryz.bs_p b b _ _ HBL.out (by omega)).mono ?_
      rintro e w6 ⟨rfl, hb6⟩
      have HB6 := Lib.hid (HB.out.trans (hb6.mono hBs))
      clear hb6
      go_wp2_with fail
      go_ret2
      rw [HV.out]
      exact ⟨rfl, HB6.out⟩
end Go.Proofs.YtpninpohligomaaGreatDoor
