/-
  Chapter 54: the law RegisterStays: the walk.
-/
import Derived.Test.YtleegellkeedhaaLawReg
import Derived.Test.YtleegellkeedhaaPlS54
namespace Go.Proofs.Ytleegellkeedhaa
open Go.RowKit
set_option maxRecDepth 100000
set_option maxHeartbeats 1000000
theorem entry3 (w : World) (c1 c2 c3 : List Value) (e1 e2 e3 : TypeId) : Blk (((w.alloc (.cells c1.toArray e1)).alloc (.cells c2.toArray e2)).alloc (.cells c3.toArray e3)) w.heap.size e1 c1 ∧ Blk (((w.alloc (.cells c1.toArray e1)).alloc (.cells c2.toArray e2)).alloc (.cells c3.toArray e3)) (w.heap.size + 1) e2 c2 ∧ Blk (((w.alloc (.cells c1.toArray e1)).alloc (.cells c2.toArray e2)).alloc (.cells c3.toArray e3)) (w.heap.size + 2) e3 c3 ∧ Below w.heap.size w (((w.alloc (.cells c1.toArray e1)).alloc (.cells c2.toArray e2)).alloc (.cells c3.toArray e3)) := by
  obtain ⟨h1, h2, hb⟩ := entry2 w c1 c2 e1 e2
  have h3 := Blk.new ((w.alloc (.cells c1.toArray e1)).alloc (.cells c2.toArray e2)) e3 c3
  have hb2 := cur_new ((w.alloc (.cells c1.toArray e1)).alloc (.cells c2.toArray e2)) (.cells c3.toArray e3)
  refine ⟨h1.to hb2, h2.to hb2, ?_, cur_step1 hb hb2⟩
  simpa using h3
theorem law_stays (WA A : Option Addr) (wc c : Nat) (ws : List Wn) (l : List Tr) (t : Tr) (qp qt : ByteArray) (qd : Int) (w : World) (hwl : ws.length ≤ 9223372036854775807) (hwc : ws.length ≤ wc) (hl : l.length ≤ 9223372036854775807) (hc : l.length ≤ c) (hwr : Rd wnE 2 w w.heap.size WA ws) (hr : Rd trE 3 w w.heap.size A l)
    (hsz : ∀ z ∈ l, z.p.size ≤ 9223372036854775807 ∧ z.t.size ≤ 9223372036854775807) (hst : t.p.size ≤ 9223372036854775807 ∧ t.t.size ≤ 9223372036854775807) :
    Calls Try.prog 5 #[.agg #[.slice WA ws.length wc, .slice A l.length c], .agg #[.string t.p, .string t.t, .int .i64 t.d], .agg #[.string qp, .string qt, .int .i64 qd]] w fun e w' => e = .returned (.bool true) ∧ Below w.heap.size w w' := by
  have HW := Lib.hid (hwr.pre 6)
  have HR := Lib.hid (hr.pre 16)
  obtain ⟨ws', hws'⟩ : ∃ ws', ws' = ws.take 6 := ⟨_, rfl⟩
  obtain ⟨l', hl'⟩ : ∃ l', l' = l.take 16 := ⟨_, rfl⟩
  have hwl' : ws'.length ≤ 32 := by rw [hws', few_len]; omega
  have hll' : l'.length ≤ 16 := by rw [hl', few_len]; omega
  have hlc' : l'.length ≤ c := by rw [hl', few_len]; omega
  have HSZ := Lib.hid (show ∀ z ∈ l', z.p.size ≤ 9223372036854775807 ∧ z.t.size ≤ 9223372036854775807 from fun z h => hsz z (List.take_subset 16 l (by rw [← hl']; exact h)))
  have e1 : min ws.length 6 = ws'.length := by rw [hws', few_len]
  have e2 : min l.length 16 = l'.length := by rw [hl', few_len]
  rw [← hws'] at HW
  rw [← hl'] at HR
  have HF := Lib.hid (few_f WA A wc ws.length c l.length)
  rw [e1, e2] at HF
  obtain ⟨R, E, hs⟩ : ∃ R E, addS ws' l' t = (R, E) := ⟨_, _, rfl⟩
  have HS := Lib.hid hs
  clear hwr hr hsz hws' hl' e1 e2 hs
  go_enter Try.func5, Try.ntmps5
  go_wp2_with fail
  obtain ⟨ha, ht, hq, hb0⟩ := entry3 w [.slice WA ws.length wc, .slice A l.length c] [.string t.p, .string t.t, .int .i64 t.d] [.string qp, .string qt, .int .i64 qd] 25 38 36
  generalize ((w.alloc (Obj.cells #[.slice WA ws.length wc, .slice A l.length c] 25)).alloc (Obj.cells #[.string t.p, .string t.t, .int .i64 t.d] 38)).alloc (Obj.cells #[.string qp, .string qt, .int .i64 qd] 36) = w0 at ha ht hq hb0 ⊢
  refine (awake_any _).mono ?_
  rintro e w1 ⟨rfl, hb1⟩
  have HA := Lib.hid (ha.to hb1)
  have HT := Lib.hid (ht.to hb1)
  have HQ := Lib.hid (hq.to hb1)
  have HB := Lib.hid (cur_step1 hb0 hb1)
  have c0 : w1.cell? ⟨w.heap.size, 0, none⟩ = some (.slice WA ws.length wc) := HA.out.cell 0
  have c1 : w1.cell? ⟨w.heap.size, 1, none⟩ = some (.slice A l.length c) := HA.out.cell 1
  clear ha ht hq hb0 hb1
  go_wp2_with (go_at_call 9; refine (HF.out _ hl hc hwl hwc).mono ?_; rintro e w2 ⟨rfl, hb2⟩; have hx2 := HA.out.to hb2; have ht2 := HT.out.to hb2; have hq2 := HQ.out.to hb2; have d0 : w2.cell? ⟨w.heap.size, 0, none⟩ = some (.slice WA ws.length wc) := hx2.cell 0; have d1 : w2.cell? ⟨w.heap.size, 1, none⟩ = some (.slice A l.length c) := hx2.cell 1; have f0 := hx2.frozen 0; have f1 := hx2.frozen 1; have u0 := ht2.cell 0; have u1 := ht2.cell 1; have u2 := ht2.cell 2)
  obtain ⟨g, hg⟩ : ∃ g, g = w.heap.size := ⟨_, rfl⟩
  have hx3 : Blk ((w2.setCell ⟨w.heap.size, 0, none⟩ (.slice WA ws'.length wc)).setCell ⟨w.heap.size, 1, none⟩ (.slice A l'.length c)) w.heap.size 25 [.slice WA ws'.length wc, .slice A l'.length c] := (hx2.set 0 (.slice WA ws'.length wc)).set 1 (.slice A l'.length c)
  have ht3 := (ht2.other (g' := w.heap.size) (by omega) 0 (.slice WA ws'.length wc)).other (g' := w.heap.size) (by omega) 1 (.slice A l'.length c)
  have hq3 := (hq2.other (g' := w.heap.size) (by omega) 0 (.slice WA ws'.length wc)).other (g' := w.heap.size) (by omega) 1 (.slice A l'.length c)
  have hb3 := below_set (below_set (cur_step1 HB.out hb2) (Nat.le_refl _) 0 (.slice WA ws'.length wc)) (Nat.le_refl _) 1 (.slice A l'.length c)
  generalize (w2.setCell ⟨w.heap.size, 0, none⟩ (.slice WA ws'.length wc)).setCell ⟨w.heap.size, 1, none⟩ (.slice A l'.length c) = w3 at hx3 ht3 hq3 hb3 ⊢
  have HK3 := Lib.hid (show Keep w w3 [(w.heap.size, 0, .slice WA ws'.length wc), (w.heap.size, 1, .slice A l'.length c), (w.heap.size + 1, 0, .string t.p), (w.heap.size + 1, 1, .string t.t), (w.heap.size + 1, 2, .int .i64 t.d), (w.heap.size + 1 + 1, 0, .string qp), (w.heap.size + 1 + 1, 2, .int .i64 qd)] from ⟨hb3, fun c hc => by
    simp at hc
    rcases hc with rfl | rfl | rfl | rfl | rfl | rfl | rfl
    exact ⟨hx3.lt, hx3.cell 0⟩
    exact ⟨hx3.lt, hx3.cell 1⟩
    exact ⟨ht3.lt, ht3.cell 0⟩
    exact ⟨ht3.lt, ht3.cell 1⟩
    exact ⟨ht3.lt, ht3.cell 2⟩
    exact ⟨hq3.lt, hq3.cell 0⟩
    exact ⟨hq3.lt, hq3.cell 2⟩⟩)
  clear hx3 ht3 hq3 hb3 hx2 ht2 hq2 d0 d1 f0 f1 u0 u1 u2 c0 c1 hb2 HA HT HQ HB hg g
  refine (add_p WA wc ws' A c l' t R E w3 hwl' (by omega) hlc' (HW.out.to HK3.out.1) (HR.out.to HK3.out.1) HSZ.out hst HS.out).mono ?_
  rintro e w4 ⟨A2, c2, rfl, hr4, hb4⟩
  have HK4 := Lib.hid (HK3.out.to hb4)
  have HR4 := Lib.hid hr4
  clear hb4 HK3 hr4
  by_cases hE : E = 0
  · subst hE
    have hRl : R.length ≤ 1000000 := by
      have h := (add_ok HS.out rfl).1
      have := posA_le l' t
      rw [h]
      unfold insA
      simp
      omega
    have hlr := Lib.hid (show l'.length ≤ 1000000 by omega)
    have HRL := Lib.hid hRl
    obtain ⟨u, hu⟩ : ∃ u, teamB l' qp qd = u := ⟨_, rfl⟩
    obtain ⟨v, hv⟩ : ∃ v, teamB R qp qd = v := ⟨_, rfl⟩
    have hlaw := stays_law HS.out qp qd
    rw [hu, hv] at hlaw
    have HU := Lib.hid hu
    have HV := Lib.hid hv
    have HLW := Lib.hid hlaw
    clear hu hv hlaw hRl
    have c0 : w4.cell? ⟨w.heap.size, 0, none⟩ = some (.slice WA ws'.length wc) := HK4.out.get (by simp)
    have c1 : w4.cell? ⟨w.heap.size, 1, none⟩ = some (.slice A l'.length c) := HK4.out.get (by simp)
    have c2' : w4.cell? ⟨w.heap.size + 1, 0, none⟩ = some (.string t.p) := HK4.out.get (by simp)
    have c3 : w4.cell? ⟨w.heap.size + 1, 1, none⟩ = some (.string t.t) := HK4.out.get (by simp)
    have c4 : w4.cell? ⟨w.heap.size + 1, 2, none⟩ = some (.int .i64 t.d) := HK4.out.get (by simp)
    have c5 : w4.cell? ⟨w.heap.size + 1 + 1, 0, none⟩ = some (.string qp) := HK4.out.get (by simp)
    have c6 : w4.cell? ⟨w.heap.size + 1 + 1, 2, none⟩ = some (.int .i64 qd) := HK4.out.get (by simp)
    have lx := HK4.out.lt (b := w.heap.size) (o := 1) (v := .slice A l'.length c) (by simp)
    have ly := HK4.out.lt (b := w.heap.size + 1 + 1) (o := 0) (v := .string qp) (by simp)
    go_wp2_with fail
    go_region_held3 (fun w' => w'.cell? ⟨w.heap.size, 1, none⟩ = some (.slice A l'.length c) ∧ w'.cell? ⟨w.heap.size + 1 + 1, 0, none⟩ = some (.string qp) ∧ w'.cell? ⟨w.heap.size + 1 + 1, 2, none⟩ = some (.int .i64 qd))
      (first
        | (go_keep; done)
        | (refine ⟨?_, ?_, ?_⟩ <;> (go_keep; done)))
      ((go_at_call 13; first
        | (have HB5x := HB5; refine (team_p A2 c2 R qp qd v _ HRL.out (HR4.out.to (by first | exact HB5 | exact HB5.drew)) HV.out).mono ?_; rintro e w6 ⟨rfl, hb6⟩; have HB6 := (show Below w5.heap.size w5 w6 from by first | exact hb6 | exact (Below.refl _ _).drew.trans hb6); have HK6 := HK5.to HB6; have y1 := HK6.get (b := w.heap.size) (o := 1) (v := .slice A l'.length c) (by simp); have y2 := HK6.get (b := w.heap.size + 1 + 1) (o := 0) (v := .string qp) (by simp); have y3 := HK6.get (b := w.heap.size + 1 + 1) (o := 2) (v := .int .i64 qd) (by simp))
        | (refine (team_p A c l' qp qd u _ hlr.out (HR.out.to (by first | exact HK4.out.1 | exact HK4.out.1.drew)) HU.out).mono ?_; rintro e w5 ⟨rfl, hb5⟩; have HB5 := (show Below w4.heap.size w4 w5 from by first | exact hb5 | exact (Below.refl _ _).drew.trans hb5); have HK5 := HK4.out.to HB5; have z1 := HK5.get (b := w.heap.size) (o := 1) (v := .slice A l'.length c) (by simp); have z2 := HK5.get (b := w.heap.size + 1 + 1) (o := 0) (v := .string qp) (by simp); have z3 := HK5.get (b := w.heap.size + 1 + 1) (o := 2) (v := .int .i64 qd) (by simp))))
    have HK := Lib.hid HK6
    have HR6 := Lib.hid (HR4.out.to (cur_step1 HB5 HB6))
    clear y1 y2 y3 HK6 HB6 HB5 HK4 lx ly HK5
    have x0 : w6.cell? ⟨w.heap.size + 1, 0, none⟩ = some (.string t.p) := HK.out.get (by simp)
    have x1 : w6.cell? ⟨w.heap.size + 1, 1, none⟩ = some (.string t.t) := HK.out.get (by simp)
    have x2 : w6.cell? ⟨w.heap.size + 1, 2, none⟩ = some (.int .i64 t.d) := HK.out.get (by simp)
    have x3 : w6.cell? ⟨w.heap.size + 1 + 1, 0, none⟩ = some (.string qp) := HK.out.get (by simp)
    have x4 : w6.cell? ⟨w.heap.size + 1 + 1, 2, none⟩ = some (.int .i64 qd) := HK.out.get (by simp)
    have es := seq_to qp t.p
    cases hsq : seq qp t.p
    · rw [hsq] at es
      obtain rfl : u = v := HLW.out.1 (by
        unfold ofP
        cases h : seq t.p qp
        · rfl
        · rw [seq_eq] at h
          rw [← h, seq_eq.2 rfl] at hsq
          cases hsq)
      clear hsq
      go_wp2_with fail
      obtain ⟨CS, hCS⟩ : ∃ CS : List (Nat × Nat × Value), CS = [(w.heap.size, 0, .slice WA ws'.length wc), (w.heap.size, 1, .slice A l'.length c), (w.heap.size + 1, 0, .string t.p), (w.heap.size + 1, 1, .string t.t), (w.heap.size + 1, 2, .int .i64 t.d), (w.heap.size + 1 + 1, 0, .string qp), (w.heap.size + 1 + 1, 2, .int .i64 qd)] := ⟨_, rfl⟩
      have K3 : Keep w6 w6 CS := by rw [hCS]; exact ⟨Below.refl _ _, HK.out.2⟩
      have k0 : ∀ s : Wd w6 CS, s.w.cell? ⟨w.heap.size + 1, 0, none⟩ = some (.string t.p) := fun s => s.h.get (by simp [hCS])
      have k1 : ∀ s : Wd w6 CS, s.w.cell? ⟨w.heap.size + 1, 1, none⟩ = some (.string t.t) := fun s => s.h.get (by simp [hCS])
      have k2 : ∀ s : Wd w6 CS, s.w.cell? ⟨w.heap.size + 1, 2, none⟩ = some (.int .i64 t.d) := fun s => s.h.get (by simp [hCS])
      have k3 : ∀ s : Wd w6 CS, s.w.cell? ⟨w.heap.size + 1 + 1, 0, none⟩ = some (.string qp) := fun s => s.h.get (by simp [hCS])
      have k4 : ∀ s : Wd w6 CS, s.w.cell? ⟨w.heap.size + 1 + 1, 2, none⟩ = some (.int .i64 qd) := fun s => s.h.get (by simp [hCS])
      have hex : ∀ s : Wd w6 CS, ∃ s' : Wd w6 CS, s.w = s'.w := fun s => ⟨s, rfl⟩
      haveI hne : Nonempty (Wd w6 CS) := ⟨⟨_, K3⟩⟩
      clear hCS x0 x1 x2 x3 x4
      refine wp_region_wd w6 CS (by kernel_rfl) (by kernel_rfl) K3.drew ?_
      repeat (go_big_quiet_step ((go_at_call 13; refine (team_p A2 c2 R t.p t.d t.t _ HRL.out (HR6.out.to (Wd.h _).1) HLW.out.2).mono ?_; rintro e w7 ⟨rfl, hb7⟩; exact ⟨rfl, ⟨w7, (Wd.h _).to hb7⟩, rfl⟩)))
      refine wpQuiet_nil ?_
      rintro wm ⟨s4, hs4⟩
      have hbm : Below w.heap.size w wm := by rw [hs4]; exact cur_step1 HK.out.1 s4.h.1
      clear hs4 s4
      go_wp2_with fail
      go_ret
      exact ⟨rfl, hbm⟩
    · rw [hsq] at es
      clear hsq
      by_cases hd : t.d ≤ qd
      · have hd2 : decide (t.d ≤ qd) = true := by simpa using hd
        go_wp2_with fail
        obtain ⟨CS, hCS⟩ : ∃ CS : List (Nat × Nat × Value), CS = [(w.heap.size, 0, .slice WA ws'.length wc), (w.heap.size, 1, .slice A l'.length c), (w.heap.size + 1, 0, .string t.p), (w.heap.size + 1, 1, .string t.t), (w.heap.size + 1, 2, .int .i64 t.d), (w.heap.size + 1 + 1, 0, .string qp), (w.heap.size + 1 + 1, 2, .int .i64 qd)] := ⟨_, rfl⟩
        have K3 : Keep w6 w6 CS := by rw [hCS]; exact ⟨Below.refl _ _, HK.out.2⟩
        have k0 : ∀ s : Wd w6 CS, s.w.cell? ⟨w.heap.size + 1, 0, none⟩ = some (.string t.p) := fun s => s.h.get (by simp [hCS])
        have k1 : ∀ s : Wd w6 CS, s.w.cell? ⟨w.heap.size + 1, 1, none⟩ = some (.string t.t) := fun s => s.h.get (by simp [hCS])
        have k2 : ∀ s : Wd w6 CS, s.w.cell? ⟨w.heap.size + 1, 2, none⟩ = some (.int .i64 t.d) := fun s => s.h.get (by simp [hCS])
        have k3 : ∀ s : Wd w6 CS, s.w.cell? ⟨w.heap.size + 1 + 1, 0, none⟩ = some (.string qp) := fun s => s.h.get (by simp [hCS])
        have k4 : ∀ s : Wd w6 CS, s.w.cell? ⟨w.heap.size + 1 + 1, 2, none⟩ = some (.int .i64 qd) := fun s => s.h.get (by simp [hCS])
        have hex : ∀ s : Wd w6 CS, ∃ s' : Wd w6 CS, s.w = s'.w := fun s => ⟨s, rfl⟩
        haveI hne : Nonempty (Wd w6 CS) := ⟨⟨_, K3⟩⟩
        clear hCS x0 x1 x2 x3 x4
        refine wp_region_wd w6 CS (by kernel_rfl) (by kernel_rfl) K3.drew ?_
        repeat (go_big_quiet_step ((go_at_call 13; refine (team_p A2 c2 R t.p t.d t.t _ HRL.out (HR6.out.to (Wd.h _).1) HLW.out.2).mono ?_; rintro e w7 ⟨rfl, hb7⟩; exact ⟨rfl, ⟨w7, (Wd.h _).to hb7⟩, rfl⟩)))
        refine wpQuiet_nil ?_
        rintro wm ⟨s4, hs4⟩
        have hbm : Below w.heap.size w wm := by rw [hs4]; exact cur_step1 HK.out.1 s4.h.1
        clear hs4 s4
        go_wp2_with fail
        go_ret
        exact ⟨rfl, hbm⟩
      · have hd2 : decide (t.d ≤ qd) = false := by simpa using hd
        obtain rfl : u = v := HLW.out.1 (by unfold ofP; rw [hd2, Bool.and_false])
        go_wp2_with fail
        obtain ⟨CS, hCS⟩ : ∃ CS : List (Nat × Nat × Value), CS = [(w.heap.size, 0, .slice WA ws'.length wc), (w.heap.size, 1, .slice A l'.length c), (w.heap.size + 1, 0, .string t.p), (w.heap.size + 1, 1, .string t.t), (w.heap.size + 1, 2, .int .i64 t.d), (w.heap.size + 1 + 1, 0, .string qp), (w.heap.size + 1 + 1, 2, .int .i64 qd)] := ⟨_, rfl⟩
        have K3 : Keep w6 w6 CS := by rw [hCS]; exact ⟨Below.refl _ _, HK.out.2⟩
        have k0 : ∀ s : Wd w6 CS, s.w.cell? ⟨w.heap.size + 1, 0, none⟩ = some (.string t.p) := fun s => s.h.get (by simp [hCS])
        have k1 : ∀ s : Wd w6 CS, s.w.cell? ⟨w.heap.size + 1, 1, none⟩ = some (.string t.t) := fun s => s.h.get (by simp [hCS])
        have k2 : ∀ s : Wd w6 CS, s.w.cell? ⟨w.heap.size + 1, 2, none⟩ = some (.int .i64 t.d) := fun s => s.h.get (by simp [hCS])
        have k3 : ∀ s : Wd w6 CS, s.w.cell? ⟨w.heap.size + 1 + 1, 0, none⟩ = some (.string qp) := fun s => s.h.get (by simp [hCS])
        have k4 : ∀ s : Wd w6 CS, s.w.cell? ⟨w.heap.size + 1 + 1, 2, none⟩ = some (.int .i64 qd) := fun s => s.h.get (by simp [hCS])
        have hex : ∀ s : Wd w6 CS, ∃ s' : Wd w6 CS, s.w = s'.w := fun s => ⟨s, rfl⟩
        haveI hne : Nonempty (Wd w6 CS) := ⟨⟨_, K3⟩⟩
        clear hCS x0 x1 x2 x3 x4
        refine wp_region_wd w6 CS (by kernel_rfl) (by kernel_rfl) K3.drew ?_
        repeat (go_big_quiet_step ((go_at_call 13; refine (team_p A2 c2 R t.p t.d t.t _ HRL.out (HR6.out.to (Wd.h _).1) HLW.out.2).mono ?_; rintro e w7 ⟨rfl, hb7⟩; exact ⟨rfl, ⟨w7, (Wd.h _).to hb7⟩, rfl⟩)))
        refine wpQuiet_nil ?_
        rintro wm ⟨s4, hs4⟩
        have hbm : Below w.heap.size w wm := by rw [hs4]; exact cur_step1 HK.out.1 s4.h.1
        clear hs4 s4
        go_wp2_with fail
        go_ret
        exact ⟨rfl, hbm⟩
  · have hEn : (E == 0) = false := by simpa using hE
    go_wp2_with fail
    go_ret
    exact ⟨rfl, HK4.out.1⟩
end Go.Proofs.Ytleegellkeedhaa
