/-
  Chapter 54: the text of a register, of the program and of the reference.
-/
import Derived.Test.YtpninpohligomaaGreatDoorRtP54
import Derived.Test.YtpninpohligomaaGreatDoorNumT
import Derived.Test.YtpninpohligomaaGreatDoorPadT
import Derived.Test.YtpninpohligomaaGreatDoorCk54
import Derived.Test.YtpninpohligomaaGreatDoorCkR54
import Derived.Test.YtpninpohligomaaGreatDoorBlk
import Derived.Test.YtpninpohligomaaGreatDoorRlast
import Derived.RegionTactic
import Derived.BigRegion
import Derived.Deep.RegionHeld3
set_option linter.unusedSimpArgs false
set_option linter.unusedVariables false
namespace Go.Proofs.YtpninpohligomaaGreatDoor
open Go.RowKit
set_option maxRecDepth 100000
set_option maxHeartbeats 2000000
theorem dec_p (n : Int) (h0 : 0 ≤ n) (h1 : n ≤ 9223372036854775807) (w : World) (hw : LibW w) :
    Calls Tryz.prog 29 #[.int .i64 n] w fun e w' => e = .returned (.string (dcA n)) ∧ Below w.heap.size w w' := by
  have HW := Lib.hid hw
  have hi : Lib.itoa n = dcB n := by unfold Lib.itoa dcB; rw [if_neg (by omega)]
  have HI := Lib.hid (show (⟨(Lib.itoa n).toArray⟩ : ByteArray) = dcA n by unfold dcA; rw [hi])
  clear hw hi
  go_enter Tryz.func29, Tryz.ntmps29
  go_wp2_with fail
  refine (Tryz.fmt_p n (by omega) (by omega) _ HW.out.tab).mono ?_
  rw [HI.out]
  rintro e w1 ⟨rfl, hb1⟩
  have HB := Lib.hid hb1
  clear hb1
  go_wp2_with fail
  go_ret
  exact ⟨rfl, HB.out⟩
theorem dec_r (n : Int) (h0 : 0 ≤ n) (h1 : n ≤ 1000000000000000000) (w : World) :
    Calls Tryz.prog 32 #[.int .i64 n] w fun e w' => e = .returned (.string (dcA n)) ∧ Below w.heap.size w w' := by
  obtain ⟨m, rfl⟩ : ∃ m : Nat, n = m := ⟨n.toNat, by omega⟩
  unfold dcA dcB
  rw [Int.toNat_natCast]
  exact decimal_r m (by omega) w
theorem ckW_big (A : Option Addr) (c : Nat) (l : List Wn) (w : World) (hl : 32 < l.length) (h63 : l.length ≤ 1000000) :
    Calls Tryz.prog 62 #[.slice A l.length c] w fun e w' => e = .returned (.int .i64 9) ∧ Below w.heap.size w w' := by
  go_enter Tryz.func62, Tryz.ntmps62
  go_wp2_with fail
  go_ret
  exact ⟨rfl, Below.refl _ _⟩
theorem ckT_big {ws : List Wn} {l : List Tr} (h : 32 < ws.length) : ckT ws l = (-1, 9) := by
  unfold ckT
  have : ckW ws = 9 := by unfold ckW; rw [if_pos h]
  rw [this, if_pos (by decide)]
theorem ck_pa (WA : Option Addr) (wc : Nat) (ws : List Wn) (A : Option Addr) (c : Nat) (l : List Tr) (r1 r2 : Int) (w : World) (hwl : ws.length ≤ 1000000) (hl : l.length ≤ 2000) (hwr : Rd wnE 2 w w.heap.size WA ws) (hr : Rd trE 3 w w.heap.size A l)
    (hsz : ∀ (k : Nat) z, l[k]? = some z → z.p.size ≤ 9223372036854775807 ∧ z.t.size ≤ 9223372036854775807) (hv : ckT ws l = (r1, r2)) :
    Calls Tryz.prog 39 #[.slice WA ws.length wc, .slice A l.length c] w fun e w' => e = .returned (.tuple #[.int .i64 r1, .int .i64 r2]) ∧ Below w.heap.size w w' := by
  by_cases h : ws.length ≤ 32
  · exact ck_p WA wc ws A c l r1 r2 w h hl hwr hr hsz hv
  · rw [ckT_big (by omega)] at hv
    injection hv with h1 h2
    subst h1 h2
    have hb : 32 < ws.length := by omega
    clear hwr hr hsz h
    go_enter Tryz.func39, Tryz.ntmps39
    go_wp2_with (go_at_call 62; refine (ckW_big _ _ ws _ hb hwl).mono ?_; rintro e w1 ⟨rfl, hb1⟩)
    go_ret2
    exact ⟨rfl, hb1⟩
theorem ck_ra (WA : Option Addr) (wc : Nat) (ws : List Wn) (A : Option Addr) (c : Nat) (l : List Tr) (r1 r2 : Int) (w : World) (hwl : ws.length ≤ 1000000) (hl : l.length ≤ 2000) (hwr : Rd wnE 2 w w.heap.size WA ws) (hr : Rd trE 3 w w.heap.size A l)
    (hsz : ∀ (k : Nat) z, l[k]? = some z → z.p.size ≤ 9223372036854775807 ∧ z.t.size ≤ 9223372036854775807) (hv : ckT ws l = (r1, r2)) :
    Calls Tryz.prog 43 #[.slice WA ws.length wc, .slice A l.length c] w fun e w' => e = .returned (.tuple #[.int .i64 r1, .int .i64 r2]) ∧ Below w.heap.size w w' := by
  by_cases h : ws.length ≤ 32
  · exact ck_r WA wc ws A c l r1 r2 w h hl hwr hr hsz hv
  · rw [ckT_big (by omega)] at hv
    injection hv with h1 h2
    subst h1 h2
    have hb : 32 < ws.length := by omega
    clear hwr hr hsz h
    go_enter Tryz.func43, Tryz.ntmps43
    go_wp2_with fail
    go_ret2
    exact ⟨rfl, Below.refl _ _⟩
def bWIN : ByteArray := ⟨#[87, 73, 78, 68, 79, 87, 32]⟩
theorem cat_W (x : Wn) : ((((((⟨#[87, 73, 78, 68, 79, 87, 32]⟩ : ByteArray) ++ dcA x.f) ++ (⟨#[32]⟩ : ByteArray)) ++ dcA x.t) ++ (⟨#[10]⟩ : ByteArray))).data.toList = rowW x ++ [10] := by
  simp [rowW, sWIN, dcA]
theorem cat_L (z : Tr) (h : isE z.t = true) : ((((((⟨#[76, 69, 65, 86, 69, 32]⟩ : ByteArray) ++ z.p) ++ (⟨#[32]⟩ : ByteArray)) ++ dcA z.d) ++ (⟨#[10]⟩ : ByteArray))).data.toList = rowT z ++ [10] := by
  unfold rowT; rw [if_pos h]; simp [sLEAVE, dcA]
theorem cat_J (z : Tr) (h : isE z.t = false) : ((((((((⟨#[74, 79, 73, 78, 32]⟩ : ByteArray) ++ z.p) ++ (⟨#[32]⟩ : ByteArray)) ++ z.t) ++ (⟨#[32]⟩ : ByteArray)) ++ dcA z.d) ++ (⟨#[10]⟩ : ByteArray))).data.toList = rowT z ++ [10] := by
  unfold rowT; rw [if_neg (by rw [h]; decide)]; simp [sJOIN, dcA]
theorem cat_T {b : ByteArray} {r : List UInt8} (T : List UInt8) (h : b.data.toList = r) : (⟨T.toArray⟩ : ByteArray) ++ b = ⟨(T ++ r).toArray⟩ := by
  apply ByteArray.ext
  apply Array.toList_inj.1
  rw [← h]
  simp
def TwR54 (ws : List Wn) (w : World) (s i : Value) (wr : World) : Prop := ∃ k : Nat, k ≤ ws.length ∧ i = .int .i64 k ∧ s = .string ⟨(txtW (ws.take k)).toArray⟩ ∧ Below w.heap.size w wr
def TtR54 (W0 : List UInt8) (l : List Tr) (w : World) (s i : Value) (wr : World) : Prop := ∃ k : Nat, k ≤ l.length ∧ i = .int .i64 k ∧ s = .string ⟨(W0 ++ txtT (l.take k)).toArray⟩ ∧ Below w.heap.size w wr
theorem text_r (WA : Option Addr) (wc : Nat) (ws : List Wn) (A : Option Addr) (c : Nat) (l : List Tr) (w : World) (hwl : ws.length ≤ 1000000) (hl : l.length ≤ 2000) (hwc : ws.length ≤ wc) (hlc : l.length ≤ c) (hwr : Rd wnE 2 w w.heap.size WA ws) (hr : Rd trE 3 w w.heap.size A l)
    (hsz : ∀ (k : Nat) z, l[k]? = some z → z.p.size ≤ 9223372036854775807 ∧ z.t.size ≤ 9223372036854775807) :
    Calls Tryz.prog 17 #[.slice WA ws.length wc, .slice A l.length c] w fun e w' => e = .returned (.tuple #[.string ⟨(TxtT ws l).1.toArray⟩, .int .i64 (TxtT ws l).2]) ∧ Below w.heap.size w w' := by
  obtain ⟨r1, e0, he0⟩ : ∃ r1 e0, ckT ws l = (r1, e0) := ⟨_, _, rfl⟩
  have HWR := Lib.hid hwr
  have HR := Lib.hid hr
  have HSZ := Lib.hid hsz
  clear hr hwr hsz
  by_cases h0 : e0 ≠ 0
  · have e1 : (e0 != 0) = true := by simpa using h0
    have HV := Lib.hid (show TxtT ws l = ([], e0) by unfold TxtT; rw [he0, if_pos h0])
    clear h0
    go_enter Tryz.func17, Tryz.ntmps17
    go_wp2_with fail
    refine (ck_ra WA wc ws A c l r1 e0 _ hwl hl HWR.out HR.out HSZ.out he0).mono ?_
    rintro e w1 ⟨rfl, hb1⟩
    have HB := Lib.hid hb1
    clear hb1
    go_wp2_with fail
    go_ret2
    rw [HV.out]
    exact ⟨rfl, HB.out⟩
  have h0' : e0 = 0 := by simpa using h0
  subst h0'
  clear h0
  have HV := Lib.hid (show TxtT ws l = (txtW ws ++ txtT l, 0) by unfold TxtT; rw [he0, if_neg (by simp)])
  obtain ⟨⟨hw32, hokw⟩, _, hokt⟩ := ckT_okay (show (ckT ws l).2 = 0 by rw [he0])
  have HOKW := Lib.hid hokw
  have HOKT := Lib.hid hokt
  have HX := Lib.hid he0
  obtain ⟨W0, hW0⟩ : ∃ W0, txtW ws = W0 := ⟨_, rfl⟩
  have HW0 := Lib.hid (show W0.length ≤ 1000 by rw [← hW0]; have := txtW_len hokw; omega)
  have HW0e := Lib.hid hW0
  clear hokw hokt he0 hW0
  go_enter Tryz.func17, Tryz.ntmps17
  go_wp2_with fail
  refine (ck_ra WA wc ws A c l r1 0 _ hwl hl HWR.out HR.out HSZ.out HX.out).mono ?_
  rintro e w1 ⟨rfl, hb1⟩
  have HB := Lib.hid hb1
  clear hb1
  go_wp2_with fail
  go_loopw [8, 24] (TwR54 ws w) (fun _ i _ => ws.length - (intOf i).toNat)
  case atStart => exact ⟨0, by omega, rfl, rfl, HB.out⟩
  case round =>
    obtain ⟨k, hk, rfl, rfl, hb⟩ := hrel
    clear HB
    have HB := Lib.hid hb
    clear hb
    by_cases hlt : k < ws.length
    · obtain ⟨z, hz⟩ : ∃ z, ws[k]? = some z := ⟨_, List.getElem?_eq_getElem hlt⟩
      obtain ⟨rb, off, rfl, hbb, hcl⟩ := HWR.out.at_ HB.out hz
      have c0 : wr.cell? ⟨rb, off + k * 2, none⟩ = some (.int .i64 z.f) := hcl 0 _ rfl
      have c1 : wr.cell? ⟨rb, off + k * 2 + 1, none⟩ = some (.int .i64 z.t) := hcl 1 _ rfl
      have hoz := HOKW.out z (List.mem_of_getElem? hz)
      have HT := Lib.hid (txtW_take hz)
      have HTL := Lib.hid (show (txtW (ws.take k)).length ≤ 128000 by
        have := txtW_len (ws := ws.take k) (fun x hx => HOKW.out x (List.mem_of_mem_take hx))
        rw [List.length_take] at this
        omega)
      obtain ⟨⟨q1, q2⟩, q3, q4⟩ := hoz
      have HCAT := Lib.hid (cat_T (txtW (ws.take k)) (cat_W z))
      obtain ⟨zf, zt⟩ := z
      simp only [] at c0 c1 q1 q2 q3 q4 HCAT HT
      have dS1 : (dcA zf).size ≤ 7 := by unfold dcA; rw [mk_size]; exact dcB_len7 (n := zf) (by omega)
      have dS2 : (dcA zt).size ≤ 7 := by unfold dcA; rw [mk_size]; exact dcB_len7 (n := zt) (by omega)
      obtain ⟨S1, hS1⟩ : ∃ S1, dcA zf = S1 := ⟨_, rfl⟩
      obtain ⟨S2, hS2⟩ : ∃ S2, dcA zt = S2 := ⟨_, rfl⟩
      obtain ⟨T, hT⟩ : ∃ T : ByteArray, (⟨(txtW (ws.take k)).toArray⟩ : ByteArray) = T := ⟨_, rfl⟩
      have dT : T.size ≤ 128000 := by rw [← hT, mk_size]; exact HTL.out
      rw [hS1, hS2, hT] at HCAT
      rw [hS1] at dS1
      rw [hS2] at dS2
      rw [hT]
      have HS1 := Lib.hid hS1
      have HS2 := Lib.hid hS2
      have p1 : (9223372036854775807 < 7 + S1.size) = False := by simp; omega
      have p2 : (9223372036854775807 < 7 + S1.size + 1) = False := by simp; omega
      have p3 : (9223372036854775807 < 7 + S1.size + 1 + S2.size) = False := by simp; omega
      have p4 : (9223372036854775807 < 7 + S1.size + 1 + S2.size + 1) = False := by simp; omega
      have p5 : (9223372036854775807 < T.size + (7 + S1.size + 1 + S2.size + 1)) = False := by simp; omega
      clear hcl hz hS1 dS1 hS2 dS2 hT dT
      go_wp2_with fail
      obtain ⟨CS, hCS⟩ : ∃ CS : List (Nat × Nat × Value), CS = [(wr.heap.size, 0, .int .i64 zf), (wr.heap.size, 1, .int .i64 zt)] := ⟨_, rfl⟩
      have K3 : Keep wr (wr.alloc (.cells #[.int .i64 zf, .int .i64 zt] 56)) CS := by rw [hCS]; exact Keep.start (cur_new _ _) (by simp)
      have k0 : ∀ s : Wd wr CS, s.w.cell? ⟨wr.heap.size, 0, none⟩ = some (.int .i64 zf) := fun s => s.h.get (by simp [hCS])
      have k1 : ∀ s : Wd wr CS, s.w.cell? ⟨wr.heap.size, 1, none⟩ = some (.int .i64 zt) := fun s => s.h.get (by simp [hCS])
      have hex : ∀ s : Wd wr CS, ∃ s' : Wd wr CS, s.w = s'.w := fun s => ⟨s, rfl⟩
      haveI hne : Nonempty (Wd wr CS) := ⟨⟨_, K3⟩⟩
      have HCS := Lib.hid hCS
      clear hCS
      refine wp_region_wd wr CS (by kernel_rfl) (by kernel_rfl) K3.drew ?_
      repeat (go_big_quiet_step ((go_at_call 32; refine (dec_r _ (by omega) (by omega) _).mono ?_; rintro e w9 ⟨rfl, hb9⟩; (first | rw [HS1.out] | rw [HS2.out]); exact ⟨rfl, ⟨w9, (Wd.h _).to hb9⟩, rfl⟩)))
      refine wpQuiet_nil ?_
      rintro w9 ⟨s9, hs9⟩
      have HB9 := Lib.hid (show Below w.heap.size w w9 by rw [hs9]; exact cur_step1 HB.out s9.h.1)
      clear hs9 s9 k0 k1 hex hne K3 HCS
      (try simp only [])
      go_wp2_with fail
      go_roundw
      case rel => exact ⟨k + 1, hlt, by simp, by rw [HT.out]; exact congrArg Value.string (by rw [HCAT.out]), HB9.out⟩
      case measure => simp [intOf]; omega
    · have hke : k = ws.length := by omega
      subst hke
      rw [List.take_length, HW0e.out]
      go_wp2_with fail
      go_loopw [8, 43] (TtR54 W0 l w) (fun _ i _ => l.length - (intOf i).toNat)
      case atStart => exact ⟨0, by omega, rfl, by simp [txtT, endR], HB.out⟩
      case round =>
        obtain ⟨k, hk, rfl, rfl, hb⟩ := hrel
        clear HB
        have HB := Lib.hid hb
        clear hb
        by_cases hlt : k < l.length
        · obtain ⟨z, hz⟩ : ∃ z, l[k]? = some z := ⟨_, List.getElem?_eq_getElem hlt⟩
          obtain ⟨rb, off, rfl, hbb, hcl⟩ := HR.out.at_ HB.out hz
          have c0 : wr.cell? ⟨rb, off + k * 3, none⟩ = some (.string z.p) := hcl 0 _ rfl
          have c1 : wr.cell? ⟨rb, off + k * 3 + 1, none⟩ = some (.string z.t) := hcl 1 _ rfl
          have c2 : wr.cell? ⟨rb, off + k * 3 + 2, none⟩ = some (.int .i64 z.d) := hcl 2 _ rfl
          have hoz := HOKT.out z (List.mem_of_getElem? hz)
          have HT := Lib.hid (txtT_take hz)
          have HTL := Lib.hid (show (W0 ++ txtT (l.take k)).length ≤ 128000 by
            have := txtT_len (l := l.take k) (fun x hx => HOKT.out x (List.mem_of_mem_take hx))
            rw [List.length_take] at this
            have h2 := HW0.out
            rw [List.length_append]
            omega)
          obtain ⟨q1, q2, q3, q4⟩ := hoz
          have hps : z.p.size ≤ 16 := nameB_16 q1
          have hts : z.t.size ≤ 16 := by
            rcases q2 with h1 | h1
            · rw [isE_size h1]; omega
            · exact nameB_16 h1
          clear q1 q2
          cases hE : isE z.t
          · have HCAT := Lib.hid (cat_T (W0 ++ txtT (l.take k)) (cat_J z hE))
            have hE2 : z.t.toList.isEmpty = false := by rw [isE_to]; exact hE
            have hE3 : (z.t.toList == []) = false := by rw [← hE2]; cases z.t.toList <;> rfl
            obtain ⟨zp, zt, zd⟩ := z
            simp only [] at c0 c1 c2 q3 q4 hps hts HCAT HT hE2 hE3
            clear hE
            have dS1 : (dcA zd).size ≤ 7 := by unfold dcA; rw [mk_size]; exact dcB_len7 (n := zd) (by omega)
            obtain ⟨S1, hS1⟩ : ∃ S1, dcA zd = S1 := ⟨_, rfl⟩
            obtain ⟨T, hT⟩ : ∃ T : ByteArray, (⟨(W0 ++ txtT (l.take k)).toArray⟩ : ByteArray) = T := ⟨_, rfl⟩
            have dT : T.size ≤ 128000 := by rw [← hT, mk_size]; exact HTL.out
            rw [hS1, hT] at HCAT
            rw [hS1] at dS1
            rw [hT]
            have HS1 := Lib.hid hS1
            have p1 : (9223372036854775807 < 5 + zp.size) = False := by simp; omega
            have p2 : (9223372036854775807 < 5 + zp.size + 1) = False := by simp; omega
            have p3 : (9223372036854775807 < 5 + zp.size + 1 + zt.size) = False := by simp; omega
            have p4 : (9223372036854775807 < 5 + zp.size + 1 + zt.size + 1) = False := by simp; omega
            have p5 : (9223372036854775807 < 5 + zp.size + 1 + zt.size + 1 + S1.size) = False := by simp; omega
            have p6 : (9223372036854775807 < 5 + zp.size + 1 + zt.size + 1 + S1.size + 1) = False := by simp; omega
            have p7 : (9223372036854775807 < T.size + (5 + zp.size + 1 + zt.size + 1 + S1.size + 1)) = False := by simp; omega
            clear hcl hz hS1 dS1 hT dT
            go_wp2_with fail
            obtain ⟨CS, hCS⟩ : ∃ CS : List (Nat × Nat × Value), CS = [(wr.heap.size, 0, .string zp), (wr.heap.size, 1, .string zt), (wr.heap.size, 2, .int .i64 zd)] := ⟨_, rfl⟩
            have K3 : Keep wr (wr.alloc (.cells #[.string zp, .string zt, .int .i64 zd] 51)) CS := by rw [hCS]; exact Keep.start (cur_new _ _) (by simp)
            have k0 : ∀ s : Wd wr CS, s.w.cell? ⟨wr.heap.size, 0, none⟩ = some (.string zp) := fun s => s.h.get (by simp [hCS])
            have k1 : ∀ s : Wd wr CS, s.w.cell? ⟨wr.heap.size, 1, none⟩ = some (.string zt) := fun s => s.h.get (by simp [hCS])
            have k2 : ∀ s : Wd wr CS, s.w.cell? ⟨wr.heap.size, 2, none⟩ = some (.int .i64 zd) := fun s => s.h.get (by simp [hCS])
            have hex : ∀ s : Wd wr CS, ∃ s' : Wd wr CS, s.w = s'.w := fun s => ⟨s, rfl⟩
            haveI hne : Nonempty (Wd wr CS) := ⟨⟨_, K3⟩⟩
            have HCS := Lib.hid hCS
            clear hCS
            refine wp_region_wd wr CS (by kernel_rfl) (by kernel_rfl) K3.drew ?_
            repeat (go_big_quiet_step ((go_at_call 32; refine (dec_r _ (by omega) (by omega) _).mono ?_; rintro e w9 ⟨rfl, hb9⟩; (first | rw [HS1.out]); exact ⟨rfl, ⟨w9, (Wd.h _).to hb9⟩, rfl⟩)))
            refine wpQuiet_nil ?_
            rintro w9 ⟨s9, hs9⟩
            have HB9 := Lib.hid (show Below w.heap.size w w9 by rw [hs9]; exact cur_step1 HB.out s9.h.1)
            clear hs9 s9 k0 k1 k2 hex hne K3 HCS
            (try simp only [])
            go_wp2_with fail
            go_roundw
            case rel => exact ⟨k + 1, hlt, by simp, by rw [HT.out]; exact congrArg Value.string (by rw [HCAT.out, List.append_assoc]), HB9.out⟩
            case measure => simp [intOf]; omega
          · have HCAT := Lib.hid (cat_T (W0 ++ txtT (l.take k)) (cat_L z hE))
            have hE2 : z.t.toList.isEmpty = true := by rw [isE_to]; exact hE
            have hE3 : (z.t.toList == []) = true := by rw [← hE2]; cases z.t.toList <;> rfl
            obtain ⟨zp, zt, zd⟩ := z
            simp only [] at c0 c1 c2 q3 q4 hps hts HCAT HT hE2 hE3
            clear hE
            have dS1 : (dcA zd).size ≤ 7 := by unfold dcA; rw [mk_size]; exact dcB_len7 (n := zd) (by omega)
            obtain ⟨S1, hS1⟩ : ∃ S1, dcA zd = S1 := ⟨_, rfl⟩
            obtain ⟨T, hT⟩ : ∃ T : ByteArray, (⟨(W0 ++ txtT (l.take k)).toArray⟩ : ByteArray) = T := ⟨_, rfl⟩
            have dT : T.size ≤ 128000 := by rw [← hT, mk_size]; exact HTL.out
            rw [hS1, hT] at HCAT
            rw [hS1] at dS1
            rw [hT]
            have HS1 := Lib.hid hS1
            have p1 : (9223372036854775807 < 6 + zp.size) = False := by simp; omega
            have p2 : (9223372036854775807 < 6 + zp.size + 1) = False := by simp; omega
            have p3 : (9223372036854775807 < 6 + zp.size + 1 + S1.size) = False := by simp; omega
            have p4 : (9223372036854775807 < 6 + zp.size + 1 + S1.size + 1) = False := by simp; omega
            have p5 : (9223372036854775807 < T.size + (6 + zp.size + 1 + S1.size + 1)) = False := by simp; omega
            clear hcl hz hS1 dS1 hT dT
            go_wp2_with fail
            obtain ⟨CS, hCS⟩ : ∃ CS : List (Nat × Nat × Value), CS = [(wr.heap.size, 0, .string zp), (wr.heap.size, 1, .string zt), (wr.heap.size, 2, .int .i64 zd)] := ⟨_, rfl⟩
            have K3 : Keep wr (wr.alloc (.cells #[.string zp, .string zt, .int .i64 zd] 51)) CS := by rw [hCS]; exact Keep.start (cur_new _ _) (by simp)
            have k0 : ∀ s : Wd wr CS, s.w.cell? ⟨wr.heap.size, 0, none⟩ = some (.string zp) := fun s => s.h.get (by simp [hCS])
            have k1 : ∀ s : Wd wr CS, s.w.cell? ⟨wr.heap.size, 1, none⟩ = some (.string zt) := fun s => s.h.get (by simp [hCS])
            have k2 : ∀ s : Wd wr CS, s.w.cell? ⟨wr.heap.size, 2, none⟩ = some (.int .i64 zd) := fun s => s.h.get (by simp [hCS])
            have hex : ∀ s : Wd wr CS, ∃ s' : Wd wr CS, s.w = s'.w := fun s => ⟨s, rfl⟩
            haveI hne : Nonempty (Wd wr CS) := ⟨⟨_, K3⟩⟩
            have HCS := Lib.hid hCS
            clear hCS
            refine wp_region_wd wr CS (by kernel_rfl) (by kernel_rfl) K3.drew ?_
            repeat (go_big_quiet_step ((go_at_call 32; refine (dec_r _ (by omega) (by omega) _).mono ?_; rintro e w9 ⟨rfl, hb9⟩; (first | rw [HS1.out]); exact ⟨rfl, ⟨w9, (Wd.h _).to hb9⟩, rfl⟩)))
            refine wpQuiet_nil ?_
            rintro w9 ⟨s9, hs9⟩
            have HB9 := Lib.hid (show Below w.heap.size w w9 by rw [hs9]; exact cur_step1 HB.out s9.h.1)
            clear hs9 s9 k0 k1 k2 hex hne K3 HCS
            (try simp only [])
            go_wp2_with fail
            go_roundw
            case rel => exact ⟨k + 1, hlt, by simp, by rw [HT.out]; exact congrArg Value.string (by rw [HCAT.out, List.append_assoc]), HB9.out⟩
            case measure => simp [intOf]; omega
        · have hke : k = l.length := by omega
          subst hke
          go_wp2_with fail
          go_ret2
          rw [HV.out, List.take_length, HW0e.out]
          exact ⟨rfl, HB.out⟩
def TwP54 (ws : List Wn) (w : World) (b : Nat) (i : Value) (wr : World) : Prop := ∃ k : Nat, k ≤ ws.length ∧ i = .int .i64 k ∧ Bld b b (txtW (ws.take k)) wr ∧ Below w.heap.size w wr
def TtP54 (W0 : List UInt8) (l : List Tr) (w : World) (b : Nat) (i : Value) (wr : World) : Prop := ∃ k : Nat, k ≤ l.length ∧ i = .int .i64 k ∧ Bld b b (W0 ++ txtT (l.take k)) wr ∧ Below w.heap.size w wr
theorem text_p (WA : Option Addr) (wc : Nat) (ws : List Wn) (A : Option Addr) (c : Nat) (l : List Tr) (w : World) (hwl : ws.length ≤ 1000000) (hl : l.length ≤ 2000) (hwc : ws.length ≤ wc) (hlc : l.length ≤ c) (hwr : Rd wnE 2 w w.heap.size WA ws) (hr : Rd trE 3 w w.heap.size A l)
    (hsz : ∀ (k : Nat) z, l[k]? = some z → z.p.size ≤ 9223372036854775807 ∧ z.t.size ≤ 9223372036854775807) (hW : LibW w) :
    Calls Tryz.prog 16 #[.slice WA ws.length wc, .slice A l.length c] w fun e w' => e = .returned (.tuple #[.string ⟨(TxtT ws l).1.toArray⟩, .int .i64 (TxtT ws l).2]) ∧ Below w.heap.size w w' := by
  obtain ⟨r1, e0, he0⟩ : ∃ r1 e0, ckT ws l = (r1, e0) := ⟨_, _, rfl⟩
  have HWR := Lib.hid hwr
  have HR := Lib.hid hr
  have HSZ := Lib.hid hsz
  have HLW := Lib.hid hW
  clear hr hwr hsz hW
  by_cases h0 : e0 ≠ 0
  · have e1 : (e0 != 0) = true := by simpa using h0
    have HV := Lib.hid (show TxtT ws l = ([], e0) by unfold TxtT; rw [he0, if_pos h0])
    clear h0
    go_enter Tryz.func16, Tryz.ntmps16
    go_wp2_with fail
    refine (ck_pa WA wc ws A c l r1 e0 _ hwl hl HWR.out HR.out HSZ.out he0).mono ?_
    rintro e w1 ⟨rfl, hb1⟩
    have HB := Lib.hid hb1
    clear hb1
    go_wp2_with fail
    go_ret2
    rw [HV.out]
    exact ⟨rfl, HB.out⟩
  have h0' : e0 = 0 := by simpa using h0
  subst h0'
  clear h0
  have HV := Lib.hid (show TxtT ws l = (txtW ws ++ txtT l, 0) by unfold TxtT; rw [he0, if_neg (by simp)])
  obtain ⟨⟨hw32, hokw⟩, _, hokt⟩ := ckT_okay (show (ckT ws l).2 = 0 by rw [he0])
  have HOKW := Lib.hid hokw
  have HOKT := Lib.hid hokt
  have HX := Lib.hid he0
  obtain ⟨W0, hW0⟩ : ∃ W0, txtW ws = W0 := ⟨_, rfl⟩
  have HW0 := Lib.hid (show W0.length ≤ 1000 by rw [← hW0]; have := txtW_len hokw; omega)
  have HW0e := Lib.hid hW0
  clear hokw hokt he0 hW0
  go_enter Tryz.func16, Tryz.ntmps16
  go_wp2_with fail
  refine (ck_pa WA wc ws A c l r1 0 _ hwl hl HWR.out HR.out HSZ.out HX.out).mono ?_
  rintro e w1 ⟨rfl, hb1⟩
  have HB := Lib.hid hb1
  have hbn := Bld.new w1
  have HB2 := Lib.hid (cur_step1 hb1 (cur_new w1 (.cells #[.pointer none, .slice none 0 0] 67)))
  have HBN := Lib.hid hbn
  have hBs := HB.out.size
  clear hb1 hbn
  go_wp2_with fail
  generalize hbb : w1.heap.size = b at *
  go_loopw [24] (TwP54 ws w b) (fun i _ => ws.length - (intOf i).toNat)
  case atStart => exact ⟨0, by omega, rfl, HBN.out, HB2.out⟩
  case round =>
    obtain ⟨k, hk, rfl, hbl, hb⟩ := hrel
    clear HB HB2 HBN
    have HB := Lib.hid hb
    have HBL := Lib.hid hbl
    have HLWr := Lib.hid (HLW.out.to hb)
    obtain ⟨_, hblt⟩ := hbl.lt
    clear hb hbl
    by_cases hlt : k < ws.length
    · obtain ⟨z, hz⟩ : ∃ z, ws[k]? = some z := ⟨_, List.getElem?_eq_getElem hlt⟩
      obtain ⟨rb, off, rfl, hbb, hcl⟩ := HWR.out.at_ HB.out hz
      have c0 : wr.cell? ⟨rb, off + k * 2, none⟩ = some (.int .i64 z.f) := hcl 0 _ rfl
      have c1 : wr.cell? ⟨rb, off + k * 2 + 1, none⟩ = some (.int .i64 z.t) := hcl 1 _ rfl
      have hoz := HOKW.out z (List.mem_of_getElem? hz)
      have HT := Lib.hid (txtW_take hz)
      have HTL := Lib.hid (show (txtW (ws.take k)).length ≤ 128000 by
        have := txtW_len (ws := ws.take k) (fun x hx => HOKW.out x (List.mem_of_mem_take hx))
        rw [List.length_take] at this
        omega)
      obtain ⟨⟨q1, q2⟩, q3, q4⟩ := hoz
      have HCAT := Lib.hid (cat_W z)
      obtain ⟨zf, zt⟩ := z
      simp only [] at c0 c1 q1 q2 q3 q4 HCAT HT
      have dS1 : (dcA zf).size ≤ 7 := by unfold dcA; rw [mk_size]; exact dcB_len7 (n := zf) (by omega)
      have dS2 : (dcA zt).size ≤ 7 := by unfold dcA; rw [mk_size]; exact dcB_len7 (n := zt) (by omega)
      obtain ⟨S1, hS1⟩ : ∃ S1, dcA zf = S1 := ⟨_, rfl⟩
      obtain ⟨S2, hS2⟩ : ∃ S2, dcA zt = S2 := ⟨_, rfl⟩
      rw [hS1, hS2] at HCAT
      rw [hS1] at dS1
      rw [hS2] at dS2
      have HS1 := Lib.hid hS1
      have HS2 := Lib.hid hS2
      have p1 : (9223372036854775807 < 7 + S1.size) = False := by simp; omega
      have p2 : (9223372036854775807 < 7 + S1.size + 1) = False := by simp; omega
      have p3 : (9223372036854775807 < 7 + S1.size + 1 + S2.size) = False := by simp; omega
      have p4 : (9223372036854775807 < 7 + S1.size + 1 + S2.size + 1) = False := by simp; omega
      have HDD := Lib.hid (show 7 + S1.size + 1 + S2.size + 1 ≤ 60 by omega)
      clear hcl hz hS1 dS1 hS2 dS2
      go_wp2_with fail
      obtain ⟨CS, hCS⟩ : ∃ CS : List (Nat × Nat × Value), CS = [(wr.heap.size, 0, .int .i64 zf), (wr.heap.size, 1, .int .i64 zt)] := ⟨_, rfl⟩
      have K3 : Keep wr (wr.alloc (.cells #[.int .i64 zf, .int .i64 zt] 48)) CS := by rw [hCS]; exact Keep.start (cur_new _ _) (by simp)
      have k0 : ∀ s : Wd wr CS, s.w.cell? ⟨wr.heap.size, 0, none⟩ = some (.int .i64 zf) := fun s => s.h.get (by simp [hCS])
      have k1 : ∀ s : Wd wr CS, s.w.cell? ⟨wr.heap.size, 1, none⟩ = some (.int .i64 zt) := fun s => s.h.get (by simp [hCS])
      have hex : ∀ s : Wd wr CS, ∃ s' : Wd wr CS, s.w = s'.w := fun s => ⟨s, rfl⟩
      haveI hne : Nonempty (Wd wr CS) := ⟨⟨_, K3⟩⟩
      have HCS := Lib.hid hCS
      clear hCS
      refine wp_region_lastL (C := fun w' => ∃ s : Wd wr CS, w' = s.w) (by simp) (by kernel_rfl) (by kernel_rfl) (by kernel_rfl) ⟨⟨_, K3.drew⟩, rfl⟩ ?_
      simp only [List.dropLast_cons_cons, List.dropLast_singleton, List.getLast_cons_cons, List.getLast_singleton]
      repeat (go_big_quiet_step ((go_at_call 29; refine (dec_p _ (by omega) (by omega) _ (HLWr.out.to (Wd.h _).1)).mono ?_; rintro e w9 ⟨rfl, hb9⟩; (first | rw [HS1.out] | rw [HS2.out]); exact ⟨rfl, ⟨w9, (Wd.h _).to hb9⟩, rfl⟩)))
      refine wpQuiet_nil ?_
      rintro w9 ⟨s9, hs9⟩
      have hb9 : Below wr.heap.size wr w9 := by rw [hs9]; exact s9.h.1
      have HB9 := Lib.hid (cur_step1 HB.out hb9)
      have HBL9 := Lib.hid (HBL.out.to hb9)
      have l9 := hb9.size
      clear hs9 s9 k0 k1 hex hne K3 HCS hb9
      go_simp
      refine (Tryz.ws_p b b (txtW (ws.take k)) _ w9 HBL9.out (by have h1 := HTL.out; have h2 := HDD.out; simp only [ByteArray.size_append]; show _ + (7 + S1.size + 1 + S2.size + 1) ≤ _; omega) (by omega)).mono ?_
      rintro e w6 ⟨rfl, hbl6, hb6, hok6⟩
      rw [HCAT.out] at hbl6
      have HBL6 := Lib.hid hbl6
      have HB6 := Lib.hid (HB9.out.trans (hb6.mono (by omega)))
      clear hbl6 hb6 hok6
      (try simp only [])
      go_wp2_with fail
      go_roundw
      case rel => exact ⟨k + 1, hlt, by simp, by rw [HT.out]; exact HBL6.out, HB6.out⟩
      case measure => simp [intOf]; omega
    · have hke : k = ws.length := by omega
      subst hke
      have hbl2 := HBL.out
      rw [List.take_length, HW0e.out] at hbl2
      have HBL2 := Lib.hid (show Bld b b (W0 ++ txtT (l.take 0)) wr by simpa [txtT, endR] using hbl2)
      clear hbl2 HBL
      have HBL := HBL2
      clear HBL2
      go_wp2_with fail
      go_loopw [42] (TtP54 W0 l w b) (fun i _ => l.length - (intOf i).toNat)
      case atStart => exact ⟨0, by omega, rfl, HBL.out, HB.out⟩
      case round =>
        obtain ⟨k, hk, rfl, hbl, hb⟩ := hrel
        clear HB HBL
        have HB := Lib.hid hb
        have HBL := Lib.hid hbl
        have HLWr := Lib.hid (HLW.out.to hb)
        obtain ⟨_, hblt⟩ := hbl.lt
        clear hb hbl
        by_cases hlt : k < l.length
        · obtain ⟨z, hz⟩ : ∃ z, l[k]? = some z := ⟨_, List.getElem?_eq_getElem hlt⟩
          obtain ⟨rb, off, rfl, hbb, hcl⟩ := HR.out.at_ HB.out hz
          have c0 : wr.cell? ⟨rb, off + k * 3, none⟩ = some (.string z.p) := hcl 0 _ rfl
          have c1 : wr.cell? ⟨rb, off + k * 3 + 1, none⟩ = some (.string z.t) := hcl 1 _ rfl
          have c2 : wr.cell? ⟨rb, off + k * 3 + 2, none⟩ = some (.int .i64 z.d) := hcl 2 _ rfl
          have hoz := HOKT.out z (List.mem_of_getElem? hz)
          have HT := Lib.hid (txtT_take hz)
          have HTL := Lib.hid (show (W0 ++ txtT (l.take k)).length ≤ 128000 by
            have := txtT_len (l := l.take k) (fun x hx => HOKT.out x (List.mem_of_mem_take hx))
            rw [List.length_take] at this
            have h2 := HW0.out
            rw [List.length_append]
            omega)
          obtain ⟨q1, q2, q3, q4⟩ := hoz
          have hps : z.p.size ≤ 16 := nameB_16 q1
          have hts : z.t.size ≤ 16 := by
            rcases q2 with h1 | h1
            · rw [isE_size h1]; omega
            · exact nameB_16 h1
          clear q1 q2
          cases hE : isE z.t
          · have HCAT := Lib.hid (cat_J z hE)
            have hE2 : z.t.toList.isEmpty = false := by rw [isE_to]; exact hE
            have hE3 : (z.t.toList == []) = false := by rw [← hE2]; cases z.t.toList <;> rfl
            obtain ⟨zp, zt, zd⟩ := z
            simp only [] at c0 c1 c2 q3 q4 hps hts HCAT HT hE2 hE3
            clear hE
            have dS1 : (dcA zd).size ≤ 7 := by unfold dcA; rw [mk_size]; exact dcB_len7 (n := zd) (by omega)
            obtain ⟨S1, hS1⟩ : ∃ S1, dcA zd = S1 := ⟨_, rfl⟩
            rw [hS1] at HCAT
            rw [hS1] at dS1
            have HS1 := Lib.hid hS1
            have p1 : (9223372036854775807 < 5 + zp.size) = False := by simp; omega
            have p2 : (9223372036854775807 < 5 + zp.size + 1) = False := by simp; omega
            have p3 : (9223372036854775807 < 5 + zp.size + 1 + zt.size) = False := by simp; omega
            have p4 : (9223372036854775807 < 5 + zp.size + 1 + zt.size + 1) = False := by simp; omega
            have p5 : (9223372036854775807 < 5 + zp.size + 1 + zt.size + 1 + S1.size) = False := by simp; omega
            have p6 : (9223372036854775807 < 5 + zp.size + 1 + zt.size + 1 + S1.size + 1) = False := by simp; omega
            have HDD := Lib.hid (show 5 + zp.size + 1 + zt.size + 1 + S1.size + 1 ≤ 60 by omega)
            clear hcl hz hS1 dS1
            go_wp2_with fail
            obtain ⟨CS, hCS⟩ : ∃ CS : List (Nat × Nat × Value), CS = [(wr.heap.size, 0, .string zp), (wr.heap.size, 1, .string zt), (wr.heap.size, 2, .int .i64 zd)] := ⟨_, rfl⟩
            have K3 : Keep wr (wr.alloc (.cells #[.string zp, .string zt, .int .i64 zd] 51)) CS := by rw [hCS]; exact Keep.start (cur_new _ _) (by simp)
            have k0 : ∀ s : Wd wr CS, s.w.cell? ⟨wr.heap.size, 0, none⟩ = some (.string zp) := fun s => s.h.get (by simp [hCS])
            have k1 : ∀ s : Wd wr CS, s.w.cell? ⟨wr.heap.size, 1, none⟩ = some (.string zt) := fun s => s.h.get (by simp [hCS])
            have k2 : ∀ s : Wd wr CS, s.w.cell? ⟨wr.heap.size, 2, none⟩ = some (.int .i64 zd) := fun s => s.h.get (by simp [hCS])
            have hex : ∀ s : Wd wr CS, ∃ s' : Wd wr CS, s.w = s'.w := fun s => ⟨s, rfl⟩
            haveI hne : Nonempty (Wd wr CS) := ⟨⟨_, K3⟩⟩
            have HCS := Lib.hid hCS
            clear hCS
            refine wp_region_lastL (C := fun w' => ∃ s : Wd wr CS, w' = s.w) (by simp) (by kernel_rfl) (by kernel_rfl) (by kernel_rfl) ⟨⟨_, K3.drew⟩, rfl⟩ ?_
            simp only [List.dropLast_cons_cons, List.dropLast_singleton, List.getLast_cons_cons, List.getLast_singleton]
            repeat (go_big_quiet_step ((go_at_call 29; refine (dec_p _ (by omega) (by omega) _ (HLWr.out.to (Wd.h _).1)).mono ?_; rintro e w9 ⟨rfl, hb9⟩; (first | rw [HS1.out]); exact ⟨rfl, ⟨w9, (Wd.h _).to hb9⟩, rfl⟩)))
            refine wpQuiet_nil ?_
            rintro w9 ⟨s9, hs9⟩
            have hb9 : Below wr.heap.size wr w9 := by rw [hs9]; exact s9.h.1
            have HB9 := Lib.hid (cur_step1 HB.out hb9)
            have HBL9 := Lib.hid (HBL.out.to hb9)
            have l9 := hb9.size
            clear hs9 s9 k0 k1 k2 hex hne K3 HCS hb9
            go_simp
            refine (Tryz.ws_p b b (W0 ++ txtT (l.take k)) _ w9 HBL9.out (by have h1 := HTL.out; have h2 := HDD.out; simp only [ByteArray.size_append]; show _ + (5 + zp.size + 1 + zt.size + 1 + S1.size + 1) ≤ _; omega) (by omega)).mono ?_
            rintro e w6 ⟨rfl, hbl6, hb6, hok6⟩
            rw [HCAT.out] at hbl6
            have HBL6 := Lib.hid hbl6
            have HB6 := Lib.hid (HB9.out.trans (hb6.mono (by omega)))
            clear hbl6 hb6 hok6
            (try simp only [])
            go_wp2_with fail
            go_roundw
            case rel => exact ⟨k + 1, hlt, by simp, by rw [HT.out, ← List.append_assoc]; exact HBL6.out, HB6.out⟩
            case measure => simp [intOf]; omega
          · have HCAT := Lib.hid (cat_L z hE)
            have hE2 : z.t.toList.isEmpty = true := by rw [isE_to]; exact hE
            have hE3 : (z.t.toList == []) = true := by rw [← hE2]; cases z.t.toList <;> rfl
            obtain ⟨zp, zt, zd⟩ := z
            simp only [] at c0 c1 c2 q3 q4 hps hts HCAT HT hE2 hE3
            clear hE
            have dS1 : (dcA zd).size ≤ 7 := by unfold dcA; rw [mk_size]; exact dcB_len7 (n := zd) (by omega)
            obtain ⟨S1, hS1⟩ : ∃ S1, dcA zd = S1 := ⟨_, rfl⟩
            rw [hS1] at HCAT
            rw [hS1] at dS1
            have HS1 := Lib.hid hS1
            have p1 : (9223372036854775807 < 6 + zp.size) = False := by simp; omega
            have p2 : (9223372036854775807 < 6 + zp.size + 1) = False := by simp; omega
            have p3 : (9223372036854775807 < 6 + zp.size + 1 + S1.size) = False := by simp; omega
            have p4 : (9223372036854775807 < 6 + zp.size + 1 + S1.size + 1) = False := by simp; omega
            have HDD := Lib.hid (show 6 + zp.size + 1 + S1.size + 1 ≤ 60 by omega)
            clear hcl hz hS1 dS1
            go_wp2_with fail
            obtain ⟨CS, hCS⟩ : ∃ CS : List (Nat × Nat × Value), CS = [(wr.heap.size, 0, .string zp), (wr.heap.size, 1, .string zt), (wr.heap.size, 2, .int .i64 zd)] := ⟨_, rfl⟩
            have K3 : Keep wr (wr.alloc (.cells #[.string zp, .string zt, .int .i64 zd] 51)) CS := by rw [hCS]; exact Keep.start (cur_new _ _) (by simp)
            have k0 : ∀ s : Wd wr CS, s.w.cell? ⟨wr.heap.size, 0, none⟩ = some (.string zp) := fun s => s.h.get (by simp [hCS])
            have k1 : ∀ s : Wd wr CS, s.w.cell? ⟨wr.heap.size, 1, none⟩ = some (.string zt) := fun s => s.h.get (by simp [hCS])
            have k2 : ∀ s : Wd wr CS, s.w.cell? ⟨wr.heap.size, 2, none⟩ = some (.int .i64 zd) := fun s => s.h.get (by simp [hCS])
            have hex : ∀ s : Wd wr CS, ∃ s' : Wd wr CS, s.w = s'.w := fun s => ⟨s, rfl⟩
            haveI hne : Nonempty (Wd wr CS) := ⟨⟨_, K3⟩⟩
            have HCS := Lib.hid hCS
            clear hCS
            refine wp_region_lastL (C := fun w' => ∃ s : Wd wr CS, w' = s.w) (by simp) (by kernel_rfl) (by kernel_rfl) (by kernel_rfl) ⟨⟨_, K3.drew⟩, rfl⟩ ?_
            simp only [List.dropLast_cons_cons, List.dropLast_singleton, List.getLast_cons_cons, List.getLast_singleton]
            repeat (go_big_quiet_step ((go_at_call 29; refine (dec_p _ (by omega) (by omega) _ (HLWr.out.to (Wd.h _).1)).mono ?_; rintro e w9 ⟨rfl, hb9⟩; (first | rw [HS1.out]); exact ⟨rfl, ⟨w9, (Wd.h _).to hb9⟩, rfl⟩)))
            refine wpQuiet_nil ?_
            rintro w9 ⟨s9, hs9⟩
            have hb9 : Below wr.heap.size wr w9 := by rw [hs9]; exact s9.h.1
            have HB9 := Lib.hid (cur_step1 HB.out hb9)
            have HBL9 := Lib.hid (HBL.out.to hb9)
            have l9 := hb9.size
            clear hs9 s9 k0 k1 k2 hex hne K3 HCS hb9
            go_simp
            refine (Tryz.ws_p b b (W0 ++ txtT (l.take k)) _ w9 HBL9.out (by have h1 := HTL.out; have h2 := HDD.out; simp only [ByteArray.size_append]; show _ + (6 + zp.size + 1 + S1.size + 1) ≤ _; omega) (by omega)).mono ?_
            rintro e w6 ⟨rfl, hbl6, hb6, hok6⟩
            rw [HCAT.out] at hbl6
            have HBL6 := Lib.hid hbl6
            have HB6 := Lib.hid (HB9.out.trans (hb6.mono (by omega)))
            clear hbl6 hb6 hok6
            (try simp only [])
            go_wp2_with fail
            go_roundw
            case rel => exact ⟨k + 1, hlt, by simp, by rw [HT.out, ← List.append_assoc]; exact HBL6.out, HB6.out⟩
            case measure => simp [intOf]; omega
        · have hke : k = l.length := by omega
          subst hke
          go_wp2_with fail
          refine (Tryz.bs_p b b _ _ HBL.out (by omega)).mono ?_
          rintro e w6 ⟨rfl, hb6⟩
          have HB6 := Lib.hid (HB.out.trans (hb6.mono hBs))
          clear hb6
          go_wp2_with fail
          go_ret2
          rw [HV.out, HW0e.out]
          exact ⟨rfl, HB6.out⟩
end Go.Proofs.YtpninpohligomaaGreatDoor
