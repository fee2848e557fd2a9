/-
  ReservePlans: the walk.
-/
import Derived.Test.YtnbhplhhemkniaaLawCt50
import Derived.Test.YtnbhplhhemkniaaEq50
namespace Go.Proofs.Ytnbhplhhemkniaa
open Go.RowKit
set_option maxRecDepth 100000
set_option maxHeartbeats 4000000
theorem plans_eq {B B' : Nat} {js : List Jb} {first : Int} {caps : List Int} {v v' : Value} {x y err x' y' err' : Int} {w1 w2 : World} (h : PlanS B js first caps v x y err w1) (h' : PlanS B' js first caps v' x' y' err' w2) :
    (x' = x ∧ y' = y ∧ err' = err) ∧ ∃ (A A' : Option Addr) (n c c' : Nat) (l : List Int), v = .slice A n c ∧ v' = .slice A' n c' ∧ l.length = n ∧ n ≤ js.length ∧ Rd inE 1 w1 w1.heap.size A l ∧ Rd inE 1 w2 w2.heap.size A' l := by
  have hnil : ∀ (w : World), Rd inE 1 w w.heap.size none ([] : List Int) := fun w k x hx => by simp at hx
  rcases h with ⟨a1, rfl, rfl, rfl, rfl⟩ | ⟨a1, a2, ⟨g, c, rfl, _, hr⟩, rfl, rfl, rfl⟩ | ⟨a1, a2, rfl, a3, rfl⟩
  · rcases h' with ⟨b1, rfl, rfl, rfl, rfl⟩ | ⟨b1, _⟩ | ⟨b1, _⟩
    · exact ⟨⟨rfl, rfl, rfl⟩, none, none, 0, 0, 0, [], rfl, rfl, rfl, by omega, hnil _, hnil _⟩
    · exact absurd b1 a1
    · exact absurd b1 a1
  · rcases h' with ⟨b1, _⟩ | ⟨b1, b2, ⟨g', c', rfl, _, hr'⟩, rfl, rfl, rfl⟩ | ⟨b1, b2, _⟩
    · exact absurd a1 b1
    · exact ⟨⟨rfl, rfl, rfl⟩, _, _, _, _, _, _, rfl, rfl, by unfold planD; rw [planF_len]; simp, Nat.le_refl _, hr, hr'⟩
    · rw [a2] at b2; cases b2
  · rcases h' with ⟨b1, _⟩ | ⟨b1, b2, _⟩ | ⟨b1, b2, rfl, b3, rfl⟩
    · exact absurd a1 b1
    · rw [a2] at b2; cases b2
    · obtain ⟨e1, e2⟩ := tight_unique b3 a3
      exact ⟨⟨e1, e2, rfl⟩, none, none, 0, 0, 0, [], rfl, rfl, rfl, by omega, hnil _, hnil _⟩
theorem law_plans (A C : Option Addr) (jc cc : Nat) (js : List Jb) (caps : List Int) (first : Int) (w : World) (hra : Rd jbE 2 w w.heap.size A js) (hrc : Rd inE 1 w w.heap.size C caps) :
    Calls Try.prog 3 #[.agg #[.slice A js.length jc, .int .i64 first, .slice C caps.length cc]] w fun e w' => e = .returned (.bool true) ∧ Below w.heap.size w w' := by
  have HE1 := Lib.hid (Blk.new w 25 [.slice A js.length jc, .int .i64 first, .slice C caps.length cc])
  have HE3 := Lib.hid (cur_new w (.cells #[.slice A js.length jc, .int .i64 first, .slice C caps.length cc] 25))
  have HA := Lib.hid hra
  have HC := Lib.hid hrc
  clear hra hrc
  go_enter Try.func3, Try.ntmps3
  go_wp2_with fail
  go_at_call 7
  refine (awake_p _).mono ?_
  rintro e w1 ⟨rfl, hb1⟩
  have K1 := HE1.out.to hb1
  have B1 := Lib.hid (HE3.out.trans (hb1.mono HE3.out.size))
  have t0 : w1.cell? ⟨w.heap.size, 0, none⟩ = some (.slice A js.length jc) := K1.cell 0
  have t1 : w1.cell? ⟨w.heap.size, 1, none⟩ = some (.int .i64 first) := K1.cell 1
  have t2 : w1.cell? ⟨w.heap.size, 2, none⟩ = some (.slice C caps.length cc) := K1.cell 2
  have HK1 := Lib.hid K1
  clear K1 hb1
  go_wp2_with fail
  go_at_call 8
  refine (small_p _ _ _ _ _ _ _ _).mono ?_
  rintro e w2 ⟨rfl, hb2⟩
  have L1 := Lib.hid (HK1.out.to hb2)
  have B2 := Lib.hid (cur_step1 B1.out hb2)
  clear hb2 t0 t1 t2
  cases hs : smallB js.length caps.length
  · go_wp2_with fail
    go_ret
    exact ⟨rfl, B2.out⟩
  · have hs2 : js.length ≤ 60 ∧ caps.length ≤ 100 := by unfold smallB at hs; simpa using hs
    obtain ⟨hs3, hs4⟩ := hs2
    clear hs
    have t0 : w2.cell? ⟨w.heap.size, 0, none⟩ = some (.slice A js.length jc) := L1.out.cell 0
    have t1 : w2.cell? ⟨w.heap.size, 1, none⟩ = some (.int .i64 first) := L1.out.cell 1
    have t2 : w2.cell? ⟨w.heap.size, 2, none⟩ = some (.slice C caps.length cc) := L1.out.cell 2
    go_wp2_with fail
    go_at_call 9
    refine (plan_p _ _ _ _ _ _ _ _ (by omega) (by omega) (HA.out.to B2.out) (HC.out.to B2.out)).mono ?_
    rintro e w3 ⟨v, x, y, err, rfl, hps, hb3⟩
    have hw := cur_new w3 (.cells #[.int .i64 x, .int .i64 y] 30)
    have HPS := Lib.hid hps
    have M1 := Lib.hid ((L1.out.to hb3).to hw)
    have M8 := Lib.hid (Blk.new w3 30 [.int .i64 x, .int .i64 y])
    have B4 := Lib.hid (cur_step1 (cur_step1 B2.out hb3) hw)
    have HW := Lib.hid hw
    clear hps hb3 t0 t1 t2 hw
    have t0 : (w3.alloc (.cells #[.int .i64 x, .int .i64 y] 30)).cell? ⟨w.heap.size, 0, none⟩ = some (.slice A js.length jc) := M1.out.cell 0
    have t1 : (w3.alloc (.cells #[.int .i64 x, .int .i64 y] 30)).cell? ⟨w.heap.size, 1, none⟩ = some (.int .i64 first) := M1.out.cell 1
    have t2 : (w3.alloc (.cells #[.int .i64 x, .int .i64 y] 30)).cell? ⟨w.heap.size, 2, none⟩ = some (.slice C caps.length cc) := M1.out.cell 2
    go_wp2_with fail
    go_at_call 10
    refine (plan_r _ _ _ _ _ _ _ _ (by omega) (by omega) (HA.out.to B4.out) (HC.out.to B4.out)).mono ?_
    rintro e w5 ⟨v', x', y', err', rfl, hps', hb5⟩
    obtain ⟨⟨rfl, rfl, rfl⟩, A1, A2, n, c1, c2, l, rfl, rfl, hln, hnj, hl1, hl2⟩ := plans_eq HPS.out hps'
    have hw := cur_new w5 (.cells #[.int .i64 x', .int .i64 y'] 30)
    have N1 := Lib.hid ((M1.out.to hb5).to hw)
    have N8 := Lib.hid ((M8.out.to hb5).to hw)
    have N9 := Lib.hid (Blk.new w5 30 [.int .i64 x', .int .i64 y'])
    have B6 := Lib.hid (cur_step1 (cur_step1 B4.out hb5) hw)
    have HL1 := Lib.hid (((hl1.to HW.out).to hb5).to hw)
    have HL2 := Lib.hid (hl2.to hw)
    clear hps' hb5 t0 t1 t2 hw hl1 hl2 HPS
    go_wp2_with fail
    obtain ⟨W2, hW2⟩ : ∃ W2, W2 = w5.alloc (.cells #[.int .i64 x', .int .i64 y'] 30) := ⟨_, rfl⟩
    rw [← hW2] at N1 N8 N9 B6 HL1 HL2 ⊢
    clear hW2
    obtain ⟨CS, hCS⟩ : ∃ CS : List (Nat × Nat × Value), CS = [(w.heap.size, 0, .slice A js.length jc), (w.heap.size, 1, .int .i64 first), (w.heap.size, 2, .slice C caps.length cc), (w3.heap.size, 0, .int .i64 x'), (w3.heap.size, 1, .int .i64 y'), (w5.heap.size, 0, .int .i64 x'), (w5.heap.size, 1, .int .i64 y')] := ⟨_, rfl⟩
    have K3 : Keep W2 W2 CS := by
      rw [hCS]
      refine Keep.start (Below.refl _ _) ?_
      intro c hc
      simp only [List.mem_cons, List.mem_nil_iff, or_false] at hc
      rcases hc with rfl | rfl | rfl | rfl | rfl | rfl | rfl
      · exact ⟨N1.out.lt, N1.out.cell 0⟩
      · exact ⟨N1.out.lt, N1.out.cell 1⟩
      · exact ⟨N1.out.lt, N1.out.cell 2⟩
      · exact ⟨N8.out.lt, N8.out.cell 0⟩
      · exact ⟨N8.out.lt, N8.out.cell 1⟩
      · exact ⟨N9.out.lt, N9.out.cell 0⟩
      · exact ⟨N9.out.lt, N9.out.cell 1⟩
    have k0 : ∀ s : Wd W2 CS, s.w.cell? ⟨w.heap.size, 0, none⟩ = some (.slice A js.length jc) := fun s => s.h.get (by simp [hCS])
    have k1 : ∀ s : Wd W2 CS, s.w.cell? ⟨w.heap.size, 1, none⟩ = some (.int .i64 first) := fun s => s.h.get (by simp [hCS])
    have k2 : ∀ s : Wd W2 CS, s.w.cell? ⟨w.heap.size, 2, none⟩ = some (.slice C caps.length cc) := fun s => s.h.get (by simp [hCS])
    have k3 : ∀ s : Wd W2 CS, s.w.cell? ⟨w3.heap.size, 0, none⟩ = some (.int .i64 x') := fun s => s.h.get (by simp [hCS])
    have k4 : ∀ s : Wd W2 CS, s.w.cell? ⟨w3.heap.size, 1, none⟩ = some (.int .i64 y') := fun s => s.h.get (by simp [hCS])
    have k5 : ∀ s : Wd W2 CS, s.w.cell? ⟨w5.heap.size, 0, none⟩ = some (.int .i64 x') := fun s => s.h.get (by simp [hCS])
    have k6 : ∀ s : Wd W2 CS, s.w.cell? ⟨w5.heap.size, 1, none⟩ = some (.int .i64 y') := fun s => s.h.get (by simp [hCS])
    have HRA := Lib.hid (show ∀ s : Wd W2 CS, Rd jbE 2 s.w s.w.heap.size A js from fun s => HA.out.to (cur_step1 B6.out s.h.1))
    have HRC := Lib.hid (show ∀ s : Wd W2 CS, Rd inE 1 s.w s.w.heap.size C caps from fun s => HC.out.to (cur_step1 B6.out s.h.1))
    have HR1 := Lib.hid (show ∀ s : Wd W2 CS, Rd inE 1 s.w s.w.heap.size A1 l from fun s => HL1.out.to s.h.1)
    have HR2 := Lib.hid (show ∀ s : Wd W2 CS, Rd inE 1 s.w s.w.heap.size A2 l from fun s => HL2.out.to s.h.1)
    have HLN := Lib.hid hln
    have hex : ∀ s : Wd W2 CS, ∃ s' : Wd W2 CS, s.w = s'.w := fun s => ⟨s, rfl⟩
    haveI hne : Nonempty (Wd W2 CS) := ⟨⟨_, K3⟩⟩
    clear hCS hln
    refine wp_region_wd W2 CS (by kernel_rfl) (by kernel_rfl) K3.drew ?_
    repeat (go_big_quiet_step (first
      | (go_at_call 11; refine (check_p _ _ _ _ _ _ _ _ (by omega) (by omega) (HRA.out _) (HRC.out _)).mono ?_; rintro e w4 ⟨rfl, hb4⟩; exact ⟨rfl, ⟨w4, (Wd.h _).to hb4⟩, rfl⟩)
      | (go_at_call 12; refine (check_r _ _ _ _ _ _ _ _ (by omega) (by omega) (HRA.out _) (HRC.out _)).mono ?_; rintro e w4 ⟨rfl, hb4⟩; exact ⟨rfl, ⟨w4, (Wd.h _).to hb4⟩, rfl⟩)
      | (go_at_call 13; refine (equal_p _ _ _ _ _ l _ HLN.out (by omega) (HR1.out _) (HR2.out _)).mono ?_; rintro e w4 ⟨rfl, hb4⟩; exact ⟨rfl, ⟨w4, (Wd.h _).to hb4⟩, rfl⟩)))
    refine wpQuiet_nil ?_
    rintro w6 ⟨s6, hs6⟩
    have B7 : Below w.heap.size w w6 := by rw [hs6]; exact cur_step1 B6.out s6.h.1
    clear hs6 s6 k0 k1 k2 k3 k4 k5 k6 hex hne K3 HRA HRC HR1 HR2 CS
    have HB7 := Lib.hid B7
    clear B7
    go_wp2_with fail
    go_ret
    exact ⟨ret_bool (by simp), HB7.out⟩
end Go.Proofs.Ytnbhplhhemkniaa
