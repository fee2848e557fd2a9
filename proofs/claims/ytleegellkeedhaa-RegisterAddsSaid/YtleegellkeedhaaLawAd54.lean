/-
  Chapter 54: the law RegisterAdds: the walk.
-/
import Derived.Test.YtleegellkeedhaaEqT54
import Derived.Test.YtleegellkeedhaaAddR54
namespace Go.Proofs.Ytleegellkeedhaa
open Go.RowKit
set_option maxRecDepth 100000
set_option maxHeartbeats 1000000
theorem add_bad {w : List Wn} {l R : List Tr} {t : Tr} {E : Int} (h : addS w l t = (R, E)) (hE : E ≠ 0) : R = [] := by
  unfold addS at h
  split at h
  · injection h with h _; exact h.symm
  · split at h
    · injection h with h _; exact h.symm
    · split at h
      · injection h with h _; exact h.symm
      · injection h with _ h2; exact absurd h2.symm hE
theorem ck_minus {w : List Wn} {l : List Tr} (h : (ckT w l).2 = 0) : ckT w l = (-1, 0) := by
  unfold ckT at *
  split at h
  · next h1 => exact absurd h h1
  · next h1 =>
    split at h
    · simp at h
    · next h2 =>
      rw [if_neg h1, if_neg h2]
      cases hs : scan (tErr w l) l.length with
      | none => rfl
      | some i =>
        rw [hs] at h
        exact absurd h (scan_ne hs)
theorem law_adds (WA A : Option Addr) (wc c : Nat) (ws : List Wn) (l : List Tr) (t : Tr) (w : World) (hwl : ws.length ≤ 9223372036854775807) (hwc : ws.length ≤ wc) (hl : l.length ≤ 9223372036854775807) (hc : l.length ≤ c) (hwr : Rd wnE 2 w w.heap.size WA ws) (hr : Rd trE 3 w w.heap.size A l)
    (hsz : ∀ z ∈ l, z.p.size ≤ 9223372036854775807 ∧ z.t.size ≤ 9223372036854775807) (hst : t.p.size ≤ 9223372036854775807 ∧ t.t.size ≤ 9223372036854775807) :
    Calls Try.prog 6 #[.agg #[.slice WA ws.length wc, .slice A l.length c], .agg #[.string t.p, .string t.t, .int .i64 t.d]] w fun e w' => e = .returned (.bool true) ∧ Below w.heap.size w w' := by
  have HW := Lib.hid (hwr.pre 6)
  have HR := Lib.hid (hr.pre 16)
  obtain ⟨ws', hws'⟩ : ∃ ws', ws' = ws.take 6 := ⟨_, rfl⟩
  obtain ⟨l', hl'⟩ : ∃ l', l' = l.take 16 := ⟨_, rfl⟩
  have hwl' : ws'.length ≤ 32 := by rw [hws', few_len]; omega
  have hll' : l'.length ≤ 16 := by rw [hl', few_len]; omega
  have hlc' : l'.length ≤ c := by rw [hl', few_len]; omega
  have HSZ := Lib.hid (show ∀ z ∈ l', z.p.size ≤ 9223372036854775807 ∧ z.t.size ≤ 9223372036854775807 from fun z h => hsz z (List.take_subset 16 l (by rw [← hl']; exact h)))
  have e1 : min ws.length 6 = ws'.length := by rw [hws', few_len]
  have e2 : min l.length 16 = l'.length := by rw [hl', few_len]
  rw [← hws'] at HW
  rw [← hl'] at HR
  have HF := Lib.hid (few_f WA A wc ws.length c l.length)
  rw [e1, e2] at HF
  obtain ⟨R, E, hs⟩ : ∃ R E, addS ws' l' t = (R, E) := ⟨_, _, rfl⟩
  have HS := Lib.hid hs
  clear hwr hr hsz hws' hl' e1 e2 hs
  go_enter Try.func6, Try.ntmps6
  go_wp2_with fail
  obtain ⟨ha, ht, hb0⟩ := entry2 w [.slice WA ws.length wc, .slice A l.length c] [.string t.p, .string t.t, .int .i64 t.d] 25 38
  generalize (w.alloc (Obj.cells #[.slice WA ws.length wc, .slice A l.length c] 25)).alloc (Obj.cells #[.string t.p, .string t.t, .int .i64 t.d] 38) = w0 at ha ht hb0 ⊢
  refine (awake_any _).mono ?_
  rintro e w1 ⟨rfl, hb1⟩
  have HA := Lib.hid (ha.to hb1)
  have HT := Lib.hid (ht.to hb1)
  have HB := Lib.hid (cur_step1 hb0 hb1)
  have c0 : w1.cell? ⟨w.heap.size, 0, none⟩ = some (.slice WA ws.length wc) := HA.out.cell 0
  have c1 : w1.cell? ⟨w.heap.size, 1, none⟩ = some (.slice A l.length c) := HA.out.cell 1
  clear ha ht hb0 hb1
  go_wp2_with (go_at_call 9; refine (HF.out _ hl hc hwl hwc).mono ?_; rintro e w2 ⟨rfl, hb2⟩; have hx2 := HA.out.to hb2; have ht2 := HT.out.to hb2; have d0 : w2.cell? ⟨w.heap.size, 0, none⟩ = some (.slice WA ws.length wc) := hx2.cell 0; have d1 : w2.cell? ⟨w.heap.size, 1, none⟩ = some (.slice A l.length c) := hx2.cell 1; have f0 := hx2.frozen 0; have f1 := hx2.frozen 1; have u0 := ht2.cell 0; have u1 := ht2.cell 1; have u2 := ht2.cell 2)
  obtain ⟨g, hg⟩ : ∃ g, g = w.heap.size := ⟨_, rfl⟩
  have hx3 : Blk ((w2.setCell ⟨w.heap.size, 0, none⟩ (.slice WA ws'.length wc)).setCell ⟨w.heap.size, 1, none⟩ (.slice A l'.length c)) w.heap.size 25 [.slice WA ws'.length wc, .slice A l'.length c] := (hx2.set 0 (.slice WA ws'.length wc)).set 1 (.slice A l'.length c)
  have ht3 := (ht2.other (g' := w.heap.size) (by omega) 0 (.slice WA ws'.length wc)).other (g' := w.heap.size) (by omega) 1 (.slice A l'.length c)
  have hb3 := below_set (below_set (cur_step1 HB.out hb2) (Nat.le_refl _) 0 (.slice WA ws'.length wc)) (Nat.le_refl _) 1 (.slice A l'.length c)
  generalize (w2.setCell ⟨w.heap.size, 0, none⟩ (.slice WA ws'.length wc)).setCell ⟨w.heap.size, 1, none⟩ (.slice A l'.length c) = w3 at hx3 ht3 hb3 ⊢
  have HK3 := Lib.hid (show Keep w w3 [(w.heap.size, 0, .slice WA ws'.length wc), (w.heap.size, 1, .slice A l'.length c), (w.heap.size + 1, 0, .string t.p), (w.heap.size + 1, 1, .string t.t), (w.heap.size + 1, 2, .int .i64 t.d)] from ⟨hb3, fun c hc => by
    simp at hc
    rcases hc with rfl | rfl | rfl | rfl | rfl
    exact ⟨hx3.lt, hx3.cell 0⟩
    exact ⟨hx3.lt, hx3.cell 1⟩
    exact ⟨ht3.lt, ht3.cell 0⟩
    exact ⟨ht3.lt, ht3.cell 1⟩
    exact ⟨ht3.lt, ht3.cell 2⟩⟩)
  clear hx3 ht3 hb3 hx2 ht2 d0 d1 f0 f1 u0 u1 u2 c0 c1 hb2 HA HT HB hg g
  refine (add_p WA wc ws' A c l' t R E w3 hwl' (by omega) hlc' (HW.out.to HK3.out.1) (HR.out.to HK3.out.1) HSZ.out hst HS.out).mono ?_
  rintro e w4 ⟨A2, c2, rfl, hr4, hb4⟩
  have HK4 := Lib.hid (HK3.out.to hb4)
  have HR4 := Lib.hid hr4
  clear hb4 HK3 hr4
  have c0 : w4.cell? ⟨w.heap.size, 0, none⟩ = some (.slice WA ws'.length wc) := HK4.out.get (by simp)
  have c1 : w4.cell? ⟨w.heap.size, 1, none⟩ = some (.slice A l'.length c) := HK4.out.get (by simp)
  have c2' : w4.cell? ⟨w.heap.size + 1, 0, none⟩ = some (.string t.p) := HK4.out.get (by simp)
  have c3 : w4.cell? ⟨w.heap.size + 1, 1, none⟩ = some (.string t.t) := HK4.out.get (by simp)
  have c4 : w4.cell? ⟨w.heap.size + 1, 2, none⟩ = some (.int .i64 t.d) := HK4.out.get (by simp)
  go_wp2_with fail
  have lx := HK4.out.lt (b := w.heap.size) (o := 0) (v := .slice WA ws'.length wc) (by simp)
  have ly := HK4.out.lt (b := w.heap.size + 1) (o := 0) (v := .string t.p) (by simp)
  go_region_held3 (fun w' => w'.cell? ⟨w.heap.size, 0, none⟩ = some (.slice WA ws'.length wc) ∧ w'.cell? ⟨w.heap.size, 1, none⟩ = some (.slice A l'.length c) ∧ w'.cell? ⟨w.heap.size + 1, 0, none⟩ = some (.string t.p) ∧ w'.cell? ⟨w.heap.size + 1, 1, none⟩ = some (.string t.t) ∧ w'.cell? ⟨w.heap.size + 1, 2, none⟩ = some (.int .i64 t.d))
    (first
      | (go_keep; done)
      | (refine ⟨?_, ?_, ?_, ?_, ?_⟩ <;> (go_keep; done)))
    ((first
      | (go_at_call 12; refine (win_f WA wc ws' _ hwl' (HW.out.to (by first | exact HK4.out.1 | exact HK4.out.1.drew))).mono ?_; rintro e w5 ⟨A3, c3, rfl, hrd, hb5⟩; have HRD := Lib.hid hrd; have HB5 := (show Below w4.heap.size w4 w5 from by first | exact hb5 | exact (Below.refl _ _).drew.trans hb5); have HK5 := HK4.out.to HB5; have z0 := HK5.get (b := w.heap.size) (o := 0) (v := .slice WA ws'.length wc) (by simp); have z1 := HK5.get (b := w.heap.size) (o := 1) (v := .slice A l'.length c) (by simp); have z2 := HK5.get (b := w.heap.size + 1) (o := 0) (v := .string t.p) (by simp); have z3 := HK5.get (b := w.heap.size + 1) (o := 1) (v := .string t.t) (by simp); have z4 := HK5.get (b := w.heap.size + 1) (o := 2) (v := .int .i64 t.d) (by simp))
      | (go_at_call 16; refine (add_r A3 c3 ws' A c l' t R E _ hwl' (by omega) (HRD.out.to (by first | exact Below.refl _ _ | exact (Below.refl _ _).drew)) (HR.out.to (by first | exact HK5.1 | exact HK5.1.drew)) HSZ.out hst HS.out).mono ?_; rintro e w6 ⟨A4, c4', rfl, hrd6, hb6⟩; have HRB := Lib.hid hrd6; have HB6 := (show Below w5.heap.size w5 w6 from by first | exact hb6 | exact (Below.refl _ _).drew.trans hb6); have HK6 := HK5.to HB6; have y0 := HK6.get (b := w.heap.size) (o := 0) (v := .slice WA ws'.length wc) (by simp); have y1 := HK6.get (b := w.heap.size) (o := 1) (v := .slice A l'.length c) (by simp); have y2 := HK6.get (b := w.heap.size + 1) (o := 0) (v := .string t.p) (by simp); have y3 := HK6.get (b := w.heap.size + 1) (o := 1) (v := .string t.t) (by simp); have y4 := HK6.get (b := w.heap.size + 1) (o := 2) (v := .int .i64 t.d) (by simp))))
  have HK := Lib.hid HK6
  have HRA := Lib.hid (HR4.out.to (cur_step1 HB5 HB6))
  clear y0 y1 y2 y3 y4 HK6 HB6 HB5 HK4 lx ly HK5 HR4
  go_wp2_with fail
  clear hb5 hrd hrd6 hb6 z0 z1 z2 z3 z4 c0 c1 c2' c4
  have HRB2 := Lib.hid HRB.out
  have hRl : R.length ≤ 1000000 := by
    by_cases hE : E = 0
    · have h := (add_ok HS.out hE).1
      rw [h, insA_len]
      omega
    · rw [add_bad HS.out hE]; simp
  refine (equal_t A2 A4 c2 c4' R w6 hRl HRA.out HRB.out).mono ?_
  rintro e w7 ⟨rfl, hb7⟩
  have HK7 := Lib.hid (HK.out.to hb7)
  have HR7 := Lib.hid (HRA.out.to hb7)
  have c0 : w7.cell? ⟨w.heap.size, 0, none⟩ = some (.slice WA ws'.length wc) := HK7.out.get (by simp)
  have c1 : w7.cell? ⟨w.heap.size, 1, none⟩ = some (.slice A l'.length c) := HK7.out.get (by simp)
  have c2' : w7.cell? ⟨w.heap.size + 1, 0, none⟩ = some (.string t.p) := HK7.out.get (by simp)
  have c3' : w7.cell? ⟨w.heap.size + 1, 1, none⟩ = some (.string t.t) := HK7.out.get (by simp)
  have c4'' : w7.cell? ⟨w.heap.size + 1, 2, none⟩ = some (.int .i64 t.d) := HK7.out.get (by simp)
  clear hb7 HRA HRB HRB2 HK
  by_cases hE : E = 0
  · subst hE
    obtain ⟨hR, hck, _⟩ := add_ok HS.out rfl
    have hkm := ck_minus hck
    have HCK := Lib.hid hkm
    have hRn : R.length = l'.length + 1 := by rw [hR, insA_len]
    have HRN := Lib.hid hRn
    have HAT := Lib.hid (show R[posA l' t]? = some t by rw [hR]; exact insA_at l' t)
    have HSR := Lib.hid (show ∀ (k : Nat) z, R[k]? = some z → z.p.size ≤ 9223372036854775807 ∧ z.t.size ≤ 9223372036854775807 from fun k z h => by
      have hm := List.mem_of_getElem? h
      rw [hR] at hm
      unfold insA at hm
      rcases List.mem_append.1 hm with h1 | h1
      · exact HSZ.out z (List.mem_of_mem_take h1)
      · rcases List.mem_cons.1 h1 with rfl | h1
        · exact hst
        · exact HSZ.out z (List.mem_of_mem_drop h1))
    clear hR hck hkm hRn
    have hcmp : ((R.length : Int) == (l'.length : Int) + 1) = true := by have := HRN.out; simp; omega
    have hcmp2 : decide ((R.length : Int) = (l'.length : Int) + 1) = true := by have := HRN.out; simp; omega
    have HRL := Lib.hid hRl
    go_wp2_with (first
      | (go_at_call 10; refine (ck_p WA wc ws' A2 c2 R (-1) 0 _ hwl' (by have := HRN.out; omega) (HW.out.to (by first | exact HK7.out.1 | exact HK7.out.1.drew)) (HR7.out.to (by first | exact Below.refl _ _ | exact (Below.refl _ _).drew)) HSR.out HCK.out).mono ?_; rintro e w8 ⟨rfl, hb8⟩; have HB8 := Lib.hid (show Below w7.heap.size w7 w8 from by first | exact hb8 | exact (Below.refl _ _).drew.trans hb8); have HK8 := HK7.out.to HB8.out; have z0 := HK8.get (b := w.heap.size) (o := 0) (v := .slice WA ws'.length wc) (by simp); have z1 := HK8.get (b := w.heap.size) (o := 1) (v := .slice A l'.length c) (by simp); have z2 := HK8.get (b := w.heap.size + 1) (o := 0) (v := .string t.p) (by simp); have z3 := HK8.get (b := w.heap.size + 1) (o := 1) (v := .string t.t) (by simp); have z4 := HK8.get (b := w.heap.size + 1) (o := 2) (v := .int .i64 t.d) (by simp); clear hb8 HK8)
      | (go_at_call 18; refine (contains_t A2 c2 R t (posA l' t) _ HRL.out (HR7.out.to HB8.out) HAT.out).mono ?_; rintro e w9 ⟨rfl, hb9⟩))
    go_ret
    exact ⟨rfl, cur_step1 HK7.out.1 (cur_step1 HB8.out hb9)⟩
  · have hR := add_bad HS.out hE
    subst hR
    have hEn : (E == 0) = false := by simpa using hE
    go_wp2_with fail
    go_ret
    exact ⟨rfl, HK7.out.1⟩
end Go.Proofs.Ytleegellkeedhaa
