/-
  ReserveCounts: the walk.
-/
import Derived.Test.YtnbhplhhemkniaaAwk50
namespace Go.Proofs.Ytnbhplhhemkniaa
open Go.RowKit
set_option maxRecDepth 100000
set_option maxHeartbeats 4000000
theorem entry2 (w : World) (c1 c2 : List Value) (e1 e2 : TypeId) : Blk ((w.alloc (.cells c1.toArray e1)).alloc (.cells c2.toArray e2)) w.heap.size e1 c1 ∧ Blk ((w.alloc (.cells c1.toArray e1)).alloc (.cells c2.toArray e2)) (w.heap.size + 1) e2 c2 ∧ Below w.heap.size w ((w.alloc (.cells c1.toArray e1)).alloc (.cells c2.toArray e2)) :=
  ⟨(Blk.new w e1 c1).to (cur_new _ _), two_new w _ _, cur_two w _ _⟩
theorem law_counts (A C : Option Addr) (jc cc : Nat) (js : List Jb) (caps : List Int) (first f t : Int) (w : World) (hra : Rd jbE 2 w w.heap.size A js) (hrc : Rd inE 1 w w.heap.size C caps) :
    Calls Try.prog 4 #[.agg #[.slice A js.length jc, .int .i64 first, .slice C caps.length cc], .agg #[.int .i64 f, .int .i64 t]] w fun e w' => e = .returned (.bool true) ∧ Below w.heap.size w w' := by
  obtain ⟨E1, E2, E3⟩ := entry2 w [.slice A js.length jc, .int .i64 first, .slice C caps.length cc] [.int .i64 f, .int .i64 t] 25 30
  have HE1 := Lib.hid E1
  have HE2 := Lib.hid E2
  have HE3 := Lib.hid E3
  have HA := Lib.hid hra
  have HC := Lib.hid hrc
  clear E1 E2 E3 hra hrc
  go_enter Try.func4, Try.ntmps4
  go_wp2_with fail
  go_at_call 7
  refine (awake_p _).mono ?_
  rintro e w1 ⟨rfl, hb1⟩
  have K1 := HE1.out.to hb1
  have K2 := Lib.hid (HE2.out.to hb1)
  have B1 := Lib.hid (HE3.out.trans (hb1.mono HE3.out.size))
  have t0 : w1.cell? ⟨w.heap.size, 0, none⟩ = some (.slice A js.length jc) := K1.cell 0
  have t1 : w1.cell? ⟨w.heap.size, 1, none⟩ = some (.int .i64 first) := K1.cell 1
  have t2 : w1.cell? ⟨w.heap.size, 2, none⟩ = some (.slice C caps.length cc) := K1.cell 2
  have HK1 := Lib.hid K1
  clear K1 hb1
  go_wp2_with fail
  go_at_call 8
  refine (small_p _ _ _ _ _ _ _ _).mono ?_
  rintro e w2 ⟨rfl, hb2⟩
  have L1 := Lib.hid (HK1.out.to hb2)
  have L2 := Lib.hid (K2.out.to hb2)
  have B2 := Lib.hid (cur_step1 B1.out hb2)
  clear hb2 t0 t1 t2
  cases hs : smallB js.length caps.length
  · go_wp2_with fail
    go_ret
    exact ⟨rfl, B2.out⟩
  · have hs2 : js.length ≤ 60 ∧ caps.length ≤ 100 := by unfold smallB at hs; simpa using hs
    obtain ⟨hs3, hs4⟩ := hs2
    clear hs
    obtain ⟨CS, hCS⟩ : ∃ CS : List (Nat × Nat × Value), CS = [(w.heap.size, 0, .slice A js.length jc), (w.heap.size, 1, .int .i64 first), (w.heap.size, 2, .slice C caps.length cc), (w.heap.size + 1, 0, .int .i64 f), (w.heap.size + 1, 1, .int .i64 t)] := ⟨_, rfl⟩
    have K3 : Keep w2 w2 CS := by
      rw [hCS]
      refine Keep.start (Below.refl _ _) ?_
      intro c hc
      simp only [List.mem_cons, List.mem_nil_iff, or_false] at hc
      rcases hc with rfl | rfl | rfl | rfl | rfl
      · exact ⟨L1.out.lt, L1.out.cell 0⟩
      · exact ⟨L1.out.lt, L1.out.cell 1⟩
      · exact ⟨L1.out.lt, L1.out.cell 2⟩
      · exact ⟨L2.out.lt, L2.out.cell 0⟩
      · exact ⟨L2.out.lt, L2.out.cell 1⟩
    have k0 : ∀ s : Wd w2 CS, s.w.cell? ⟨w.heap.size, 0, none⟩ = some (.slice A js.length jc) := fun s => s.h.get (by simp [hCS])
    have k1 : ∀ s : Wd w2 CS, s.w.cell? ⟨w.heap.size, 1, none⟩ = some (.int .i64 first) := fun s => s.h.get (by simp [hCS])
    have k2 : ∀ s : Wd w2 CS, s.w.cell? ⟨w.heap.size, 2, none⟩ = some (.slice C caps.length cc) := fun s => s.h.get (by simp [hCS])
    have k3 : ∀ s : Wd w2 CS, s.w.cell? ⟨w.heap.size + 1, 0, none⟩ = some (.int .i64 f) := fun s => s.h.get (by simp [hCS])
    have k4 : ∀ s : Wd w2 CS, s.w.cell? ⟨w.heap.size + 1, 1, none⟩ = some (.int .i64 t) := fun s => s.h.get (by simp [hCS])
    have HRA := Lib.hid (show ∀ s : Wd w2 CS, Rd jbE 2 s.w s.w.heap.size A js from fun s => HA.out.to (cur_step1 B2.out s.h.1))
    have HRC := Lib.hid (show ∀ s : Wd w2 CS, Rd inE 1 s.w s.w.heap.size C caps from fun s => HC.out.to (cur_step1 B2.out s.h.1))
    have hex : ∀ s : Wd w2 CS, ∃ s' : Wd w2 CS, s.w = s'.w := fun s => ⟨s, rfl⟩
    haveI hne : Nonempty (Wd w2 CS) := ⟨⟨_, K3⟩⟩
    clear hCS
    go_wp2_with fail
    refine wp_region_wd w2 CS (by kernel_rfl) (by kernel_rfl) K3.drew ?_
    repeat (go_big_quiet_step (first
      | (go_at_call 14; refine (room_p _ _ _ _ _ _ _ (by omega) (HRC.out _)).mono ?_; rintro e w4 ⟨rfl, hb4⟩; exact ⟨rfl, ⟨w4, (Wd.h _).to hb4⟩, rfl⟩)
      | (go_at_call 15; refine (room_r _ _ _ _ _ _ _ (by omega) (HRC.out _)).mono ?_; rintro e w4 ⟨rfl, hb4⟩; exact ⟨rfl, ⟨w4, (Wd.h _).to hb4⟩, rfl⟩)
      | (go_at_call 16; refine (inside_p _ _ _ _ _ _ (by omega) (HRA.out _)).mono ?_; rintro e w4 ⟨rfl, hb4⟩; exact ⟨rfl, ⟨w4, (Wd.h _).to hb4⟩, rfl⟩)
      | (go_at_call 17; refine (inside_r _ _ _ _ _ _ (by omega) (HRA.out _)).mono ?_; rintro e w4 ⟨rfl, hb4⟩; exact ⟨rfl, ⟨w4, (Wd.h _).to hb4⟩, rfl⟩)
      | (go_at_call 18; refine (refutes_p _ _ _ _ _ _ _ _ _ _ (by omega) (by omega) (HRA.out _) (HRC.out _)).mono ?_; rintro e w4 ⟨rfl, hb4⟩; exact ⟨rfl, ⟨w4, (Wd.h _).to hb4⟩, rfl⟩)
      | (go_at_call 19; refine (refutes_r _ _ _ _ _ _ _ _ _ _ (by omega) (by omega) (HRA.out _) (HRC.out _)).mono ?_; rintro e w4 ⟨rfl, hb4⟩; exact ⟨rfl, ⟨w4, (Wd.h _).to hb4⟩, rfl⟩)))
    refine wpQuiet_nil ?_
    rintro w6 ⟨s6, hs6⟩
    have B6 : Below w.heap.size w w6 := by rw [hs6]; exact cur_step1 B2.out s6.h.1
    clear hs6 s6 k0 k1 k2 k3 k4 hex hne K3 HRA HRC CS
    have HB6 := Lib.hid B6
    clear B6
    go_wp2_with fail
    go_ret
    exact ⟨ret_bool (by simp), HB6.out⟩
end Go.Proofs.Ytnbhplhhemkniaa
