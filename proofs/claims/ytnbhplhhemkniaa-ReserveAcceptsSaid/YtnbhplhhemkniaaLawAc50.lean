/-
  ReserveAccepts: the walk.
-/
import Derived.Test.YtnbhplhhemkniaaAwk50
import Derived.Test.YtnbhplhhemkniaaAccR50
namespace Go.Proofs.Ytnbhplhhemkniaa
open Go.RowKit
set_option maxRecDepth 100000
set_option maxHeartbeats 4000000
theorem law_accepts (A C D : Option Addr) (jc cc dc : Nat) (js : List Jb) (caps days : List Int) (first : Int) (w : World) (hdc : days.length ≤ dc) (hra : Rd jbE 2 w w.heap.size A js) (hrc : Rd inE 1 w w.heap.size C caps) (hrd : Rd inE 1 w w.heap.size D days) :
    Calls Try.prog 5 #[.agg #[.slice A js.length jc, .int .i64 first, .slice C caps.length cc], .slice D days.length dc] w fun e w' => e = .returned (.bool true) ∧ Below w.heap.size w w' := by
  have HE1 := Lib.hid (Blk.new w 25 [.slice A js.length jc, .int .i64 first, .slice C caps.length cc])
  have HE3 := Lib.hid (cur_new w (.cells #[.slice A js.length jc, .int .i64 first, .slice C caps.length cc] 25))
  have HD := Lib.hid hrd
  have HA := Lib.hid hra
  have HC := Lib.hid hrc
  clear hra hrc hrd
  go_enter Try.func5, Try.ntmps5
  go_wp2_with fail
  go_at_call 7
  refine (awake_p _).mono ?_
  rintro e w1 ⟨rfl, hb1⟩
  have K1 := HE1.out.to hb1
  have B1 := Lib.hid (HE3.out.trans (hb1.mono HE3.out.size))
  have t0 : w1.cell? ⟨w.heap.size, 0, none⟩ = some (.slice A js.length jc) := K1.cell 0
  have t1 : w1.cell? ⟨w.heap.size, 1, none⟩ = some (.int .i64 first) := K1.cell 1
  have t2 : w1.cell? ⟨w.heap.size, 2, none⟩ = some (.slice C caps.length cc) := K1.cell 2
  have HK1 := Lib.hid K1
  clear K1 hb1
  go_wp2_with fail
  go_at_call 8
  refine (small_p _ _ _ _ _ _ _ _).mono ?_
  rintro e w2 ⟨rfl, hb2⟩
  have L1 := Lib.hid (HK1.out.to hb2)
  have B2 := Lib.hid (cur_step1 B1.out hb2)
  clear hb2 t0 t1 t2
  cases hs : smallB js.length caps.length
  · go_wp2_with fail
    go_ret
    exact ⟨rfl, B2.out⟩
  · have hs2 : js.length ≤ 60 ∧ caps.length ≤ 100 := by unfold smallB at hs; simpa using hs
    obtain ⟨hs3, hs4⟩ := hs2
    clear hs
    by_cases hl1 : (100 : Int) < (days.length : Int)
    · go_wp2_with fail
      go_ret
      exact ⟨rfl, B2.out⟩
    obtain ⟨CS, hCS⟩ : ∃ CS : List (Nat × Nat × Value), CS = [(w.heap.size, 0, .slice A js.length jc), (w.heap.size, 1, .int .i64 first), (w.heap.size, 2, .slice C caps.length cc)] := ⟨_, rfl⟩
    have K3 : Keep w2 w2 CS := by
      rw [hCS]
      refine Keep.start (Below.refl _ _) ?_
      intro c hc
      simp only [List.mem_cons, List.mem_nil_iff, or_false] at hc
      rcases hc with rfl | rfl | rfl
      · exact ⟨L1.out.lt, L1.out.cell 0⟩
      · exact ⟨L1.out.lt, L1.out.cell 1⟩
      · exact ⟨L1.out.lt, L1.out.cell 2⟩
    have k0 : ∀ s : Wd w2 CS, s.w.cell? ⟨w.heap.size, 0, none⟩ = some (.slice A js.length jc) := fun s => s.h.get (by simp [hCS])
    have k1 : ∀ s : Wd w2 CS, s.w.cell? ⟨w.heap.size, 1, none⟩ = some (.int .i64 first) := fun s => s.h.get (by simp [hCS])
    have k2 : ∀ s : Wd w2 CS, s.w.cell? ⟨w.heap.size, 2, none⟩ = some (.slice C caps.length cc) := fun s => s.h.get (by simp [hCS])
    have HRA := Lib.hid (show ∀ s : Wd w2 CS, Rd jbE 2 s.w s.w.heap.size A js from fun s => HA.out.to (cur_step1 B2.out s.h.1))
    have HRC := Lib.hid (show ∀ s : Wd w2 CS, Rd inE 1 s.w s.w.heap.size C caps from fun s => HC.out.to (cur_step1 B2.out s.h.1))
    have HRD := Lib.hid (show ∀ s : Wd w2 CS, Rd inE 1 s.w s.w.heap.size D days from fun s => HD.out.to (cur_step1 B2.out s.h.1))
    have hex : ∀ s : Wd w2 CS, ∃ s' : Wd w2 CS, s.w = s'.w := fun s => ⟨s, rfl⟩
    haveI hne : Nonempty (Wd w2 CS) := ⟨⟨_, K3⟩⟩
    clear hCS
    go_wp2_with fail
    refine wp_region_wd w2 CS (by kernel_rfl) (by kernel_rfl) K3.drew ?_
    repeat (go_big_quiet_step (first
      | (go_at_call 20; refine (accept_p _ _ _ _ _ _ _ _ _ _ _ (by omega) (by omega) (HRA.out _) (HRC.out _) (HRD.out _)).mono ?_; rintro e w4 ⟨rfl, hb4⟩; exact ⟨rfl, ⟨w4, (Wd.h _).to hb4⟩, rfl⟩)
      | (go_at_call 21; refine (accept_r _ _ _ _ _ _ _ _ _ _ _ (by omega) (by omega) hdc (HRA.out _) (HRC.out _) (HRD.out _)).mono ?_; rintro e w4 ⟨rfl, hb4⟩; exact ⟨rfl, ⟨w4, (Wd.h _).to hb4⟩, rfl⟩)))
    refine wpQuiet_nil ?_
    rintro w6 ⟨s6, hs6⟩
    have B6 : Below w.heap.size w w6 := by rw [hs6]; exact cur_step1 B2.out s6.h.1
    clear hs6 s6 k0 k1 k2 hex hne K3 HRA HRC HRD CS
    have HB6 := Lib.hid B6
    clear B6
    go_wp2_with fail
    go_ret
    exact ⟨ret_bool (by simp), HB6.out⟩
end Go.Proofs.Ytnbhplhhemkniaa
