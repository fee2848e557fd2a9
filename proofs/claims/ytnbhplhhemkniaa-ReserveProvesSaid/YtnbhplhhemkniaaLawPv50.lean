/-
  ReserveProves: the walk.
-/
import Derived.Test.YtnbhplhhemkniaaLawCt50
import Derived.Test.YtnbhplhhemkniaaAcc50
import Derived.Test.YtnbhplhhemkniaaEdg50
namespace Go.Proofs.Ytnbhplhhemkniaa
open Go.RowKit
set_option maxRecDepth 100000
set_option maxHeartbeats 4000000
theorem ckT_vals (js : List Jb) (first : Int) (caps : List Int) : ckT js first caps ≠ 13 := by
  have h : ∀ (n : Int) (l : List Jb), jErr first n l ≠ 13 := by
    intro n l
    induction l with
    | nil => unfold jErr; omega
    | cons a r ih =>
      unfold jErr
      split
      · omega
      · split
        · omega
        · exact ih
  unfold ckT
  split
  · omega
  · split
    · omega
    · split
      · exact h _ _
      · omega
theorem capsOk_of {caps : List Int} (h : caps.all capOk = true) : capsOk caps := by
  intro c hc
  have := List.all_eq_true.1 h c hc
  unfold capOk at this
  simpa using this
/-- What the law wants to know of a plan. -/
theorem proves_ck {js : List Jb} {first : Int} {caps : List Int} (h : ckT js first caps ≠ 0) (days : List Int) (f t : Int) : accT js first caps days ≠ 0 ∧ refT js first caps f t ≠ 0 := by
  unfold accT refT
  rw [if_pos h, if_pos h]
  exact ⟨h, h⟩
theorem proves_ok {js : List Jb} {first : Int} {caps : List Int} (h : ckT js first caps = 0) (hp : planOk js first caps = true) (f t : Int) : accT js first caps (planD js first caps) = 0 ∧ refT js first caps f t ≠ 0 ∧ (planD js first caps).length = js.length := by
  obtain ⟨h1, h2, h3, h4, h5, h6⟩ := ckT_facts h
  have hok := capsOk_of h5
  have ha := plan_acc (js := js) h3 hok hp
  have hl := (plan_good (js := js) h3 hok).len
  refine ⟨?_, ?_, hl⟩
  · unfold accT
    rw [if_neg (by omega), if_neg (by omega)]
    exact ha
  · have hr := acc_room h3 h4 hok h2 h6 hl ha f t
    unfold refT
    rw [if_neg (by omega)]
    split
    · omega
    · first | rw [if_pos hr]; omega | omega
theorem proves_no {js : List Jb} {first : Int} {caps : List Int} {x y : Int} (h : ckT js first caps = 0) (hp : planOk js first caps = false) (ht : IsTight js first caps x y) (days : List Int) : accT js first caps days ≠ 0 ∧ refT js first caps x y = 0 := by
  obtain ⟨h1, h2, h3, h4, h5, h6⟩ := ckT_facts h
  have hok := capsOk_of h5
  obtain ⟨a, ha, b, hb, hbad⟩ := late_bad h3 h4 hok h2 h6 hp
  rcases ht with ⟨⟨⟨c, hc, rfl⟩, ⟨d, hd, rfl⟩, hxy⟩, _⟩ | ⟨_, _, hno⟩
  · have hxy2 : c.f ≤ d.t ∧ roomT c.f d.t first caps < insT js c.f d.t := by unfold badW at hxy; simpa using hxy
    constructor
    · intro hacc
      unfold accT at hacc
      rw [if_neg (by omega)] at hacc
      by_cases hl : days.length = js.length
      · rw [if_neg (by omega)] at hacc
        have := acc_room h3 h4 hok h2 h6 hl hacc c.f d.t
        omega
      · rw [if_pos hl] at hacc; omega
    · unfold refT
      rw [if_neg (by omega), if_neg (by omega), if_neg (by omega)]
  · have := hno a ha b hb
    rw [hbad] at this; cases this
theorem accept_n (A C D : Option Addr) (jc cc dc n : Nat) (js : List Jb) (caps days : List Int) (first : Int) (w : World) (hn : days.length = n) (hjl : js.length ≤ 4000000) (hcl : caps.length ≤ 4000000) (hra : Rd jbE 2 w w.heap.size A js) (hrc : Rd inE 1 w w.heap.size C caps) (hrd : Rd inE 1 w w.heap.size D days) :
    Calls Try.prog 20 #[.slice A js.length jc, .int .i64 first, .slice C caps.length cc, .slice D n dc] w fun e w' => e = .returned (.int .i64 (accT js first caps days)) ∧ Below w.heap.size w w' := by
  subst hn
  exact accept_p A C D jc cc dc js caps days first w hjl hcl hra hrc hrd
theorem law_proves (A C D : Option Addr) (jc cc dc : Nat) (js : List Jb) (caps days : List Int) (first f t : Int) (w : World) (hra : Rd jbE 2 w w.heap.size A js) (hrc : Rd inE 1 w w.heap.size C caps) (hrd : Rd inE 1 w w.heap.size D days) :
    Calls Try.prog 6 #[.agg #[.slice A js.length jc, .int .i64 first, .slice C caps.length cc], .slice D days.length dc, .agg #[.int .i64 f, .int .i64 t]] w fun e w' => e = .returned (.bool true) ∧ Below w.heap.size w w' := by
  obtain ⟨E1, E2, E3⟩ := entry2 w [.slice A js.length jc, .int .i64 first, .slice C caps.length cc] [.int .i64 f, .int .i64 t] 25 30
  have HE1 := Lib.hid E1
  have HE2 := Lib.hid E2
  have HE3 := Lib.hid E3
  have HA := Lib.hid hra
  have HC := Lib.hid hrc
  have HD := Lib.hid hrd
  clear E1 E2 E3 hra hrc hrd
  go_enter Try.func6, Try.ntmps6
  go_wp2_with fail
  go_at_call 7
  refine (awake_p _).mono ?_
  rintro e w1 ⟨rfl, hb1⟩
  have K1 := HE1.out.to hb1
  have K2 := Lib.hid (HE2.out.to hb1)
  have B1 := Lib.hid (HE3.out.trans (hb1.mono HE3.out.size))
  have t0 : w1.cell? ⟨w.heap.size, 0, none⟩ = some (.slice A js.length jc) := K1.cell 0
  have t1 : w1.cell? ⟨w.heap.size, 1, none⟩ = some (.int .i64 first) := K1.cell 1
  have t2 : w1.cell? ⟨w.heap.size, 2, none⟩ = some (.slice C caps.length cc) := K1.cell 2
  have HK1 := Lib.hid K1
  clear K1 hb1
  go_wp2_with fail
  go_at_call 8
  refine (small_p _ _ _ _ _ _ _ _).mono ?_
  rintro e w2 ⟨rfl, hb2⟩
  have L1 := Lib.hid (HK1.out.to hb2)
  have L2 := Lib.hid (K2.out.to hb2)
  have B2 := Lib.hid (cur_step1 B1.out hb2)
  clear hb2 t0 t1 t2
  cases hs : smallB js.length caps.length
  · go_wp2_with fail
    go_ret
    exact ⟨rfl, B2.out⟩
  · have hs2 : js.length ≤ 60 ∧ caps.length ≤ 100 := by unfold smallB at hs; simpa using hs
    obtain ⟨hs3, hs4⟩ := hs2
    clear hs
    by_cases hl1 : (100 : Int) < (days.length : Int)
    · go_wp2_with fail
      go_ret
      exact ⟨rfl, B2.out⟩
    have t0 : w2.cell? ⟨w.heap.size, 0, none⟩ = some (.slice A js.length jc) := L1.out.cell 0
    have t1 : w2.cell? ⟨w.heap.size, 1, none⟩ = some (.int .i64 first) := L1.out.cell 1
    have t2 : w2.cell? ⟨w.heap.size, 2, none⟩ = some (.slice C caps.length cc) := L1.out.cell 2
    go_wp2_with fail
    go_at_call 9
    refine (plan_p _ _ _ _ _ _ _ _ (by omega) (by omega) (HA.out.to B2.out) (HC.out.to B2.out)).mono ?_
    rintro e w3 ⟨v, x, y, err, rfl, hps, hb3⟩
    have hw := cur_new w3 (.cells #[.int .i64 x, .int .i64 y] 30)
    have HPS := Lib.hid hps
    have M1 := Lib.hid ((L1.out.to hb3).to hw)
    have M2 := Lib.hid ((L2.out.to hb3).to hw)
    have M8 := Lib.hid (Blk.new w3 30 [.int .i64 x, .int .i64 y])
    have B4 := Lib.hid (cur_step1 (cur_step1 B2.out hb3) hw)
    clear hps hb3 t0 t1 t2
    have t0 : (w3.alloc (.cells #[.int .i64 x, .int .i64 y] 30)).cell? ⟨w.heap.size, 0, none⟩ = some (.slice A js.length jc) := M1.out.cell 0
    have t1 : (w3.alloc (.cells #[.int .i64 x, .int .i64 y] 30)).cell? ⟨w.heap.size, 1, none⟩ = some (.int .i64 first) := M1.out.cell 1
    have t2 : (w3.alloc (.cells #[.int .i64 x, .int .i64 y] 30)).cell? ⟨w.heap.size, 2, none⟩ = some (.slice C caps.length cc) := M1.out.cell 2
    have HW := Lib.hid hw
    clear hw
    go_wp2_with fail
    go_at_call 20
    refine (accept_p _ _ _ _ _ _ _ _ _ _ _ (by omega) (by omega) (HA.out.to B4.out) (HC.out.to B4.out) (HD.out.to B4.out)).mono ?_
    rintro e w5 ⟨rfl, hb5⟩
    have N1 := Lib.hid (M1.out.to hb5)
    have N2 := Lib.hid (M2.out.to hb5)
    have N8 := Lib.hid (M8.out.to hb5)
    have HW5 := Lib.hid (HW.out.trans (hb5.mono HW.out.size))
    have B5 := Lib.hid (cur_step1 B4.out hb5)
    clear hb5 t0 t1 t2
    obtain ⟨av, hav⟩ : ∃ av, accT js first caps days = av := ⟨_, rfl⟩
    obtain ⟨rv, hrv⟩ : ∃ rv, refT js first caps f t = rv := ⟨_, rfl⟩
    have HAV := Lib.hid hav
    have HRV := Lib.hid hrv
    rw [hav]
    have t0 : w5.cell? ⟨w.heap.size, 0, none⟩ = some (.slice A js.length jc) := N1.out.cell 0
    have t1 : w5.cell? ⟨w.heap.size, 1, none⟩ = some (.int .i64 first) := N1.out.cell 1
    have t2 : w5.cell? ⟨w.heap.size, 2, none⟩ = some (.slice C caps.length cc) := N1.out.cell 2
    have u0 : w5.cell? ⟨w.heap.size + 1, 0, none⟩ = some (.int .i64 f) := N2.out.cell 0
    have u1 : w5.cell? ⟨w.heap.size + 1, 1, none⟩ = some (.int .i64 t) := N2.out.cell 1
    clear hav hrv
    go_wp2_with fail
    go_at_call 18
    refine (refutes_p _ _ _ _ _ _ _ _ _ _ (by omega) (by omega) (HA.out.to B5.out) (HC.out.to B5.out)).mono ?_
    rintro e w6 ⟨rfl, hb6⟩
    rw [HRV.out]
    have O1 := Lib.hid (N1.out.to hb6)
    have O8 := Lib.hid (N8.out.to hb6)
    have HW6 := Lib.hid (HW5.out.trans (hb6.mono HW5.out.size))
    have B6 := Lib.hid (cur_step1 B5.out hb6)
    clear hb6 t0 t1 t2 u0 u1
    have t0 : w6.cell? ⟨w.heap.size, 0, none⟩ = some (.slice A js.length jc) := O1.out.cell 0
    have t1 : w6.cell? ⟨w.heap.size, 1, none⟩ = some (.int .i64 first) := O1.out.cell 1
    have t2 : w6.cell? ⟨w.heap.size, 2, none⟩ = some (.slice C caps.length cc) := O1.out.cell 2
    have u0 : w6.cell? ⟨w3.heap.size, 0, none⟩ = some (.int .i64 x) := O8.out.cell 0
    have u1 : w6.cell? ⟨w3.heap.size, 1, none⟩ = some (.int .i64 y) := O8.out.cell 1
    rcases HPS.out with ⟨hck, rfl, rfl, rfl, he⟩ | ⟨hck, hok, ⟨g, c', rfl, hg, hrp⟩, rfl, rfl, rfl⟩ | ⟨hck, hok, rfl, htg, rfl⟩
    · obtain ⟨p1, p2⟩ := proves_ck hck days f t
      have hav : av ≠ 0 := by rw [← HAV.out]; exact p1
      have hrv : rv ≠ 0 := by rw [← HRV.out]; exact p2
      have he0 : err ≠ 0 := by rw [he]; exact hck
      have he13 : err ≠ 13 := by rw [he]; exact ckT_vals js first caps
      clear p1 p2 hck he HPS
      go_wp2_with fail
      go_ret
      exact ⟨ret_bool (by simp [hav, hrv]), B6.out⟩
    · obtain ⟨p1, p2, p3⟩ := proves_ok hck hok f t
      have hrv : rv ≠ 0 := by rw [← HRV.out]; exact p2
      have HP := Lib.hid hrp
      have HP1 := Lib.hid p1
      have HP3 := Lib.hid p3
      clear p1 p2 p3 hck hok HPS hrp hg
      go_wp2_with (go_at_call 20; refine (accept_n _ _ _ _ _ _ _ _ _ _ _ _ HP3.out (by omega) (by omega) (HA.out.to B6.out) (HC.out.to B6.out) (HP.out.to HW6.out)).mono ?_; rintro e w7 ⟨rfl, hb7⟩; rw [HP1.out]; have B7 := Lib.hid (cur_step1 B6.out hb7); clear hb7)
      go_ret
      exact ⟨ret_bool (by simp [hrv]), B7.out⟩
    · obtain ⟨p1, p2⟩ := proves_no hck hok htg days
      have hav : av ≠ 0 := by rw [← HAV.out]; exact p1
      have HP2 := Lib.hid p2
      clear p1 p2 hck hok htg HPS
      go_wp2_with (go_at_call 18; refine (refutes_p _ _ _ _ _ _ _ _ _ _ (by omega) (by omega) (HA.out.to B6.out) (HC.out.to B6.out)).mono ?_; rintro e w7 ⟨rfl, hb7⟩; rw [HP2.out]; have B7 := Lib.hid (cur_step1 B6.out hb7); clear hb7)
      go_ret
      exact ⟨ret_bool (by simp [hav]), B7.out⟩
end Go.Proofs.Ytnbhplhhemkniaa
