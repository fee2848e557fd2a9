/-
  Chapter 54: Add of the program.
-/
import Derived.Test.YtleegellkeedhaaGrow54
namespace Go.Proofs.Ytleegellkeedhaa
open Go.RowKit
set_option maxRecDepth 100000
set_option maxHeartbeats 1000000
def posA (l : List Tr) (t : Tr) : Nat := if findI (gtT t) l 0 < 0 then l.length else (findI (gtT t) l 0).toNat
def insA (l : List Tr) (t : Tr) : List Tr := l.take (posA l t) ++ (t :: l.drop (posA l t))
def addS (ws : List Wn) (l : List Tr) (t : Tr) : List Tr × Int :=
  if (ckT ws l).2 ≠ 0 then ([], (ckT ws l).2)
  else if decide (0 ≤ findI (eqPD t) l 0) then ([], 7)
  else if (ckT ws (insA l t)).2 ≠ 0 then ([], (ckT ws (insA l t)).2) else (insA l t, 0)
theorem findI_lt {f : Tr → Bool} : ∀ (l : List Tr) (k : Nat), findI f l k < (k : Int) + l.length ∧ -1 ≤ findI f l k
  | [], k => by unfold findI; simp; omega
  | x :: xs, k => by
    have h := findI_lt (f := f) xs (k + 1)
    unfold findI
    split
    · simp; omega
    · simp at h ⊢; omega
theorem posA_le (l : List Tr) (t : Tr) : posA l t ≤ l.length := by
  have h := findI_lt (f := gtT t) l 0
  unfold posA
  split <;> omega
theorem Rd.drop {α : Type} {enc : α → List Value} {size B : Nat} {w : World} {b off : Nat} {l : List α} (h : Rd enc size w B (some ⟨b, off, none⟩) l) (n : Nat) : Rd enc size w B (some ⟨b, off + n * size, none⟩) (l.drop n) := by
  intro k x hx
  rw [List.getElem?_drop] at hx
  obtain ⟨b', off', e, hb, hc⟩ := h (n + k) x hx
  injection e with e
  injection e with e1 e2 _
  subst e1 e2
  exact ⟨b, off + n * size, rfl, hb, fun j u hu => by have := hc j u hu; rw [Nat.add_mul] at this; rw [← this]; congr 2; omega⟩
theorem Rd.drop' {w : World} {A : Option Addr} {l : List Tr} (h : Rd trE 3 w w.heap.size A l) (n : Nat) (hn : n < l.length) : Rd trE 3 w w.heap.size (Option.map (fun x => x.add (n * 3)) A) (l.drop n) := by
  obtain ⟨x, hx⟩ : ∃ x, l[n]? = some x := ⟨_, List.getElem?_eq_getElem hn⟩
  obtain ⟨b, off, rfl, _, _⟩ := h n x hx
  have := h.drop n
  simpa [Addr.add_lit] using this
theorem concat_ins (p : Nat) (l L : List Tr) (t : Tr) (A : Option Addr) (c : Nat) (A3 : Option Addr) (n3 c3 : Nat) (w w3 : World) (hl : l.length ≤ 1000) (hp : p ≤ l.length) (hL : L = l.take p ++ t :: l.drop p) (hn3 : n3 = l.length - p) (hb : Below w.heap.size w w3) (hr : Rd trE 3 w w.heap.size A l) (hr3 : Rd trE 3 w w.heap.size A3 (l.drop p)) :
    Calls Try.prog 39 #[.slice (some ⟨w3.heap.size + 1, 0, none⟩) 3 3] (((w3.alloc (.cells #[.string t.p, .string t.t, .int .i64 t.d] 38)).alloc (.cells #[.slice A p c, .slice (some ⟨w3.heap.size, 0, none⟩) 1 1, .slice A3 n3 c3] 23)).drew) fun e w' => ∃ g c2, e = .returned (.slice (some ⟨g, 0, none⟩) L.length c2) ∧ Rd trE 3 w' w'.heap.size (some ⟨g, 0, none⟩) L ∧ Below w3.heap.size w3 w' := by
  have hfl : [l.take p, [t], l.drop p].flatten = L := by rw [hL]; simp
  have hLl : L.length = l.length + 1 := by rw [hL]; simp; omega
  have b1 := cur_new w3 (.cells #[.string t.p, .string t.t, .int .i64 t.d] 38)
  have h1 := heap_alloc_new w3 (.cells #[.string t.p, .string t.t, .int .i64 t.d] 38)
  have z1 : (w3.alloc (.cells #[.string t.p, .string t.t, .int .i64 t.d] 38)).heap.size = w3.heap.size + 1 := by simp
  generalize w3.alloc (.cells #[.string t.p, .string t.t, .int .i64 t.d] 38) = wa at b1 h1 z1 ⊢
  have b2 := cur_new wa (.cells #[.slice A p c, .slice (some ⟨w3.heap.size, 0, none⟩) 1 1, .slice A3 n3 c3] 23)
  have h2 := heap_alloc_new wa (.cells #[.slice A p c, .slice (some ⟨w3.heap.size, 0, none⟩) 1 1, .slice A3 n3 c3] 23)
  have z2 : (wa.alloc (.cells #[.slice A p c, .slice (some ⟨w3.heap.size, 0, none⟩) 1 1, .slice A3 n3 c3] 23)).heap.size = wa.heap.size + 1 := by simp
  generalize wa.alloc (.cells #[.slice A p c, .slice (some ⟨w3.heap.size, 0, none⟩) 1 1, .slice A3 n3 c3] 23) = wb at b2 h2 z2 ⊢
  have b3 : Below wb.heap.size wb wb.drew := (Below.refl _ _).drew
  have hA : Below wa.heap.size wa wb.drew := cur_step1 b2 b3
  have h3A : Below w3.heap.size w3 wb.drew := cur_step1 b1 hA
  have hW : Below w.heap.size w wb.drew := cur_step1 hb h3A
  have hm : (w3.heap.size + 1) = wa.heap.size := by omega
  have hrt : Rd trE 3 wb.drew wb.drew.heap.size (some ⟨w3.heap.size, 0, none⟩) [t] := by
    intro k x hx
    cases k with
    | succ k => simp at hx
    | zero =>
      simp at hx
      subst hx
      refine ⟨w3.heap.size, 0, rfl, ?_, fun j u hu => ?_⟩
      · have := hA.size; omega
      · refine (hA.cell (p := ⟨w3.heap.size, 0 + 0 * 3 + j, none⟩) (by simp; omega)).trans ?_
        have := cell_of_row wa w3.heap.size j _ _ _ h1
        match j with
        | 0 => simp [trE] at hu; subst hu; simpa using this
        | 1 => simp [trE] at hu; subst hu; simpa using this
        | 2 => simp [trE] at hu; subst hu; simpa using this
        | j + 3 => simp [trE] at hu
  have hat : sliceAt wb.drew (w3.heap.size + 1) [l.take p, [t], l.drop p] := by
    intro k q hk
    have hc := cell_of_row wb.drew wa.heap.size k _ _ _ h2
    match k with
    | 0 =>
      simp at hk
      subst hk
      refine ⟨A, c, ?_, (hr.pre p).to hW⟩
      rw [hm, List.length_take, Nat.min_eq_left hp]
      simpa using hc
    | 1 =>
      simp at hk
      subst hk
      refine ⟨some ⟨w3.heap.size, 0, none⟩, 1, ?_, hrt⟩
      rw [hm]
      simpa using hc
    | 2 =>
      simp at hk
      subst hk
      refine ⟨A3, c3, ?_, hr3.to hW⟩
      rw [hm, List.length_drop, ← hn3]
      simpa using hc
    | k + 3 => simp at hk
  refine (concat_f (w3.heap.size + 1) [l.take p, [t], l.drop p] 3 wb.drew rfl (by omega) (by have : wb.drew.heap.size = wb.heap.size := rfl; omega) (by rw [hfl]; omega) (by rw [hfl]; omega) hat).mono ?_
  rintro e w' ⟨g, c2, rfl, ho, hbw⟩
  rw [hfl] at ho ⊢
  obtain ⟨A', c', e1, hr', _⟩ := ho.rd trE_len
  injection e1 with e1 _ _
  subst e1
  exact ⟨g, c2, rfl, hr', cur_step1 h3A hbw⟩
theorem add_p (WA : Option Addr) (wc : Nat) (ws : List Wn) (A : Option Addr) (c : Nat) (l : List Tr) (t : Tr) (R : List Tr) (E : Int) (w : World) (hwl : ws.length ≤ 32) (hl : l.length ≤ 1000) (hlc : l.length ≤ c) (hwr : Rd wnE 2 w w.heap.size WA ws) (hr : Rd trE 3 w w.heap.size A l)
    (hsz : ∀ z ∈ l, z.p.size ≤ 9223372036854775807 ∧ z.t.size ≤ 9223372036854775807) (hst : t.p.size ≤ 9223372036854775807 ∧ t.t.size ≤ 9223372036854775807) (hs : addS ws l t = (R, E)) :
    Calls Try.prog 15 #[.slice WA ws.length wc, .slice A l.length c, .agg #[.string t.p, .string t.t, .int .i64 t.d]] w fun e w' => ∃ A2 c2, e = .returned (.tuple #[.slice A2 R.length c2, .int .i64 E]) ∧ Rd trE 3 w' w'.heap.size A2 R ∧ Below w.heap.size w w' := by
  have HWR := Lib.hid hwr
  have HR := Lib.hid hr
  have HSZ := Lib.hid (show ∀ (k : Nat) z, l[k]? = some z → z.p.size ≤ 9223372036854775807 ∧ z.t.size ≤ 9223372036854775807 from fun k z h => hsz z (List.mem_of_getElem? h))
  have HSI := Lib.hid (show ∀ (k : Nat) z, (insA l t)[k]? = some z → z.p.size ≤ 9223372036854775807 ∧ z.t.size ≤ 9223372036854775807 from fun k z h => by
    have hm := List.mem_of_getElem? h
    unfold insA at hm
    rcases List.mem_append.1 hm with h1 | h1
    · exact hsz z (List.mem_of_mem_take h1)
    · rcases List.mem_cons.1 h1 with rfl | h1
      · exact hst
      · exact hsz z (List.mem_of_mem_drop h1))
  obtain ⟨r1, r2, hck⟩ : ∃ r1 r2, ckT ws l = (r1, r2) := ⟨_, _, rfl⟩
  have HCK := Lib.hid hck
  clear hwr hr hsz
  have hbk := Blk.new w 38 [.string t.p, .string t.t, .int .i64 t.d]
  have hbx := cur_new w (.cells #[.string t.p, .string t.t, .int .i64 t.d] 38)
  have CARDUMMY := trivial
  by_cases hr2 : r2 = 0
  · subst hr2
    cases hh : decide (0 ≤ findI (eqPD t) l 0)
    · have HH := Lib.hid hh
      obtain ⟨f, hf⟩ : ∃ f, findI (gtT t) l 0 = f := ⟨_, rfl⟩
      have HF := Lib.hid hf
      obtain ⟨q1, q2, hck2⟩ : ∃ q1 q2, ckT ws (insA l t) = (q1, q2) := ⟨_, _, rfl⟩
      have HCK2 := Lib.hid hck2
      have hfl := findI_lt (f := gtT t) l 0
      rw [hf] at hfl
      have hlen : (insA l t).length = l.length + 1 := by
        have := posA_le l t
        unfold insA
        simp
        omega
      have HS := Lib.hid (show (if q2 ≠ 0 then ([], q2) else (insA l t, 0)) = (R, E) by
        rw [← hs]; unfold addS; rw [hck, hh, hck2]; rfl)
      have HIN := Lib.hid (show insA l t = l.take (posA l t) ++ (t :: l.drop (posA l t)) from rfl)
      have HPOS := Lib.hid (show posA l t = if f < 0 then l.length else f.toNat by unfold posA; rw [hf])
      clear hs hh hf hck hck2
      have hwp : ∀ p : Nat, p ≤ l.length → IntKind.i64.wrap (p : Int) = (p : Int) := fun p hp => by simp [IntKind.wrap, IntKind.bits, IntKind.signed]; omega
      obtain ⟨L, hL⟩ : ∃ L, L = insA l t := ⟨_, rfl⟩
      rw [← hL] at HCK2 HS HSI HIN hlen
      clear hL
      have HLN := Lib.hid hlen
      clear hlen
      have HS0 := HS
      clear HS
      by_cases hf0 : f < 0
      · have HLE := Lib.hid (show L = l.take l.length ++ t :: l.drop l.length by have h := HIN.out; rw [HPOS.out, if_pos hf0] at h; exact h)
        have hw1 := hwp l.length (Nat.le_refl _)
        have h0l : (0 : Int) ≤ (l.length : Int) := by omega
        have hlci : (l.length : Int) ≤ (c : Int) := by omega
        clear hfl HPOS HIN hwp
        by_cases hq2 : q2 = 0
        · subst hq2
          have HS := Lib.hid (show L = R ∧ (0 : Int) = E by have h := HS0.out; rw [if_neg (by simp)] at h; injection h with a b; exact ⟨a, b⟩)
          clear HS0
          go_enter Try.func15, Try.ntmps15
          go_wp2_with fail
          generalize w.alloc (Obj.cells #[.string t.p, .string t.t, .int .i64 t.d] 38) = w0 at hbk hbx ⊢
          have HB := Lib.hid hbx
          have HK := Lib.hid hbk
          clear hbk hbx
          refine (ck_p WA wc ws A c l r1 0 w0 hwl (by omega) (HWR.out.to HB.out) (HR.out.to HB.out) HSZ.out HCK.out).mono ?_
          rintro e w1 ⟨rfl, hb1⟩
          replace HB := Lib.hid (cur_step1 HB.out hb1)
          replace HK := Lib.hid (HK.out.to hb1)
          clear hb1
          go_wp2_with (first
            | (go_at_call 22; refine (cont_a A c l t w.heap.size false _ (by omega) (HR.out.to HB.out) (HK.out.cell 0) (HK.out.cell 1) (HK.out.cell 2) HK.out.lt HH.out).mono ?_; rintro e w2 ⟨rfl, hb2⟩; replace HB := Lib.hid (cur_step1 HB.out hb2); replace HK := Lib.hid (HK.out.to hb2); clear hb2)
            | (go_at_call 37; refine (idx_b A c l t w.heap.size f _ (by omega) (HR.out.to HB.out) (HK.out.cell 0) (HK.out.cell 1) (HK.out.cell 2) HK.out.lt HF.out).mono ?_; rintro e w3 ⟨rfl, hb3⟩; replace HB := Lib.hid (cur_step1 HB.out hb3); replace HK := Lib.hid (HK.out.to hb3); clear hb3))
          obtain ⟨c0, c1, c2⟩ : w3.cell? ⟨w.heap.size, 0, none⟩ = some (.string t.p) ∧ w3.cell? ⟨w.heap.size, 1, none⟩ = some (.string t.t) ∧ w3.cell? ⟨w.heap.size, 2, none⟩ = some (.int .i64 t.d) := ⟨HK.out.cell 0, HK.out.cell 1, HK.out.cell 2⟩
          have hwlt := HK.out.lt
          go_region_held3 (fun w' => w'.cell? ⟨w.heap.size, 0, none⟩ = some (.string t.p) ∧ w'.cell? ⟨w.heap.size, 1, none⟩ = some (.string t.t) ∧ w'.cell? ⟨w.heap.size, 2, none⟩ = some (.int .i64 t.d))
            (first
              | (go_keep; done)
              | (refine ⟨?_, ?_, ?_⟩ <;> (go_keep; done)))
            ((go_at_call 39; (try generalize (if c = l.length then A else Option.map (fun x => x.add (l.length * 3)) A) = A3); refine (concat_ins l.length l L t A c _ _ _ w w3 hl (by omega) HLE.out (by omega) HB.out HR.out (by rw [List.drop_length]; exact Rd.nil_)).mono ?_; rintro e w4 ⟨g4, cc4, rfl, hr4, hb4⟩; have z0 := (hb4.cell (p := ⟨w.heap.size, 0, none⟩) hwlt).trans c0; have z1 := (hb4.cell (p := ⟨w.heap.size, 1, none⟩) hwlt).trans c1; have z2 := (hb4.cell (p := ⟨w.heap.size, 2, none⟩) hwlt).trans c2))
          have HB4 := Lib.hid (cur_step1 HB.out hb4)
          have HR4 := Lib.hid hr4
          clear hb4 hr4 c0 c1 c2 z0 z1 z2
          go_wp2_with (first
            | (go_at_call 10; refine (ck_p WA wc ws (some ⟨g4, 0, none⟩) cc4 L q1 0 _ hwl (by have := HLN.out; omega) (HWR.out.to HB4.out) HR4.out HSI.out HCK2.out).mono ?_; rintro e w5 ⟨rfl, hb5⟩; have HB5 := Lib.hid (cur_step1 HB4.out hb5); have HR5 := Lib.hid (HR4.out.to hb5); clear hb5))
          go_ret2
          obtain ⟨h1, h2⟩ := HS.out
          subst h1 h2
          exact ⟨some ⟨g4, 0, none⟩, cc4, rfl, HR5.out, HB5.out⟩
        · have hqn : (q2 == 0) = false := by simpa using hq2
          have HS := Lib.hid (show ([] : List Tr) = R ∧ q2 = E by have h := HS0.out; rw [if_pos hq2] at h; injection h with a b; exact ⟨a, b⟩)
          clear HS0
          go_enter Try.func15, Try.ntmps15
          go_wp2_with fail
          generalize w.alloc (Obj.cells #[.string t.p, .string t.t, .int .i64 t.d] 38) = w0 at hbk hbx ⊢
          have HB := Lib.hid hbx
          have HK := Lib.hid hbk
          clear hbk hbx
          refine (ck_p WA wc ws A c l r1 0 w0 hwl (by omega) (HWR.out.to HB.out) (HR.out.to HB.out) HSZ.out HCK.out).mono ?_
          rintro e w1 ⟨rfl, hb1⟩
          replace HB := Lib.hid (cur_step1 HB.out hb1)
          replace HK := Lib.hid (HK.out.to hb1)
          clear hb1
          go_wp2_with (first
            | (go_at_call 22; refine (cont_a A c l t w.heap.size false _ (by omega) (HR.out.to HB.out) (HK.out.cell 0) (HK.out.cell 1) (HK.out.cell 2) HK.out.lt HH.out).mono ?_; rintro e w2 ⟨rfl, hb2⟩; replace HB := Lib.hid (cur_step1 HB.out hb2); replace HK := Lib.hid (HK.out.to hb2); clear hb2)
            | (go_at_call 37; refine (idx_b A c l t w.heap.size f _ (by omega) (HR.out.to HB.out) (HK.out.cell 0) (HK.out.cell 1) (HK.out.cell 2) HK.out.lt HF.out).mono ?_; rintro e w3 ⟨rfl, hb3⟩; replace HB := Lib.hid (cur_step1 HB.out hb3); replace HK := Lib.hid (HK.out.to hb3); clear hb3))
          obtain ⟨c0, c1, c2⟩ : w3.cell? ⟨w.heap.size, 0, none⟩ = some (.string t.p) ∧ w3.cell? ⟨w.heap.size, 1, none⟩ = some (.string t.t) ∧ w3.cell? ⟨w.heap.size, 2, none⟩ = some (.int .i64 t.d) := ⟨HK.out.cell 0, HK.out.cell 1, HK.out.cell 2⟩
          have hwlt := HK.out.lt
          go_region_held3 (fun w' => w'.cell? ⟨w.heap.size, 0, none⟩ = some (.string t.p) ∧ w'.cell? ⟨w.heap.size, 1, none⟩ = some (.string t.t) ∧ w'.cell? ⟨w.heap.size, 2, none⟩ = some (.int .i64 t.d))
            (first
              | (go_keep; done)
              | (refine ⟨?_, ?_, ?_⟩ <;> (go_keep; done)))
            ((go_at_call 39; (try generalize (if c = l.length then A else Option.map (fun x => x.add (l.length * 3)) A) = A3); refine (concat_ins l.length l L t A c _ _ _ w w3 hl (by omega) HLE.out (by omega) HB.out HR.out (by rw [List.drop_length]; exact Rd.nil_)).mono ?_; rintro e w4 ⟨g4, cc4, rfl, hr4, hb4⟩; have z0 := (hb4.cell (p := ⟨w.heap.size, 0, none⟩) hwlt).trans c0; have z1 := (hb4.cell (p := ⟨w.heap.size, 1, none⟩) hwlt).trans c1; have z2 := (hb4.cell (p := ⟨w.heap.size, 2, none⟩) hwlt).trans c2))
          have HB4 := Lib.hid (cur_step1 HB.out hb4)
          have HR4 := Lib.hid hr4
          clear hb4 hr4 c0 c1 c2 z0 z1 z2
          go_wp2_with (first
            | (go_at_call 10; refine (ck_p WA wc ws (some ⟨g4, 0, none⟩) cc4 L q1 q2 _ hwl (by have := HLN.out; omega) (HWR.out.to HB4.out) HR4.out HSI.out HCK2.out).mono ?_; rintro e w5 ⟨rfl, hb5⟩; have HB5 := Lib.hid (cur_step1 HB4.out hb5); have HR5 := Lib.hid (HR4.out.to hb5); clear hb5))
          go_ret2
          obtain ⟨h1, h2⟩ := HS.out
          subst h1 h2
          exact ⟨none, 0, rfl, Rd.nil_, HB5.out⟩
      · obtain ⟨p, rfl⟩ : ∃ p : Nat, f = (p : Int) := ⟨f.toNat, by omega⟩
        have HLE := Lib.hid (show L = l.take p ++ t :: l.drop p by have h := HIN.out; rw [HPOS.out, if_neg hf0] at h; simpa using h)
        have hpl : p < l.length := by omega
        have hw1 := hwp p (by omega)
        have h0l : (0 : Int) ≤ (p : Int) := by omega
        have hlci : (p : Int) ≤ (c : Int) := by omega
        have hlcl : (p : Int) ≤ (l.length : Int) := by omega
        have hcp : ¬ c = p := by omega
        clear hfl HPOS HIN hwp hf0
        by_cases hq2 : q2 = 0
        · subst hq2
          have HS := Lib.hid (show L = R ∧ (0 : Int) = E by have h := HS0.out; rw [if_neg (by simp)] at h; injection h with a b; exact ⟨a, b⟩)
          clear HS0
          go_enter Try.func15, Try.ntmps15
          go_wp2_with fail
          generalize w.alloc (Obj.cells #[.string t.p, .string t.t, .int .i64 t.d] 38) = w0 at hbk hbx ⊢
          have HB := Lib.hid hbx
          have HK := Lib.hid hbk
          clear hbk hbx
          refine (ck_p WA wc ws A c l r1 0 w0 hwl (by omega) (HWR.out.to HB.out) (HR.out.to HB.out) HSZ.out HCK.out).mono ?_
          rintro e w1 ⟨rfl, hb1⟩
          replace HB := Lib.hid (cur_step1 HB.out hb1)
          replace HK := Lib.hid (HK.out.to hb1)
          clear hb1
          go_wp2_with (first
            | (go_at_call 22; refine (cont_a A c l t w.heap.size false _ (by omega) (HR.out.to HB.out) (HK.out.cell 0) (HK.out.cell 1) (HK.out.cell 2) HK.out.lt HH.out).mono ?_; rintro e w2 ⟨rfl, hb2⟩; replace HB := Lib.hid (cur_step1 HB.out hb2); replace HK := Lib.hid (HK.out.to hb2); clear hb2)
            | (go_at_call 37; refine (idx_b A c l t w.heap.size (p : Int) _ (by omega) (HR.out.to HB.out) (HK.out.cell 0) (HK.out.cell 1) (HK.out.cell 2) HK.out.lt HF.out).mono ?_; rintro e w3 ⟨rfl, hb3⟩; replace HB := Lib.hid (cur_step1 HB.out hb3); replace HK := Lib.hid (HK.out.to hb3); clear hb3))
          obtain ⟨c0, c1, c2⟩ : w3.cell? ⟨w.heap.size, 0, none⟩ = some (.string t.p) ∧ w3.cell? ⟨w.heap.size, 1, none⟩ = some (.string t.t) ∧ w3.cell? ⟨w.heap.size, 2, none⟩ = some (.int .i64 t.d) := ⟨HK.out.cell 0, HK.out.cell 1, HK.out.cell 2⟩
          have hwlt := HK.out.lt
          go_region_held3 (fun w' => w'.cell? ⟨w.heap.size, 0, none⟩ = some (.string t.p) ∧ w'.cell? ⟨w.heap.size, 1, none⟩ = some (.string t.t) ∧ w'.cell? ⟨w.heap.size, 2, none⟩ = some (.int .i64 t.d))
            (first
              | (go_keep; done)
              | (refine ⟨?_, ?_, ?_⟩ <;> (go_keep; done)))
            ((go_at_call 39; (try generalize (if c = l.length then A else Option.map (fun x => x.add (l.length * 3)) A) = A3); refine (concat_ins p l L t A c _ _ _ w w3 hl (by omega) HLE.out (by omega) HB.out HR.out (Rd.drop' HR.out p hpl)).mono ?_; rintro e w4 ⟨g4, cc4, rfl, hr4, hb4⟩; have z0 := (hb4.cell (p := ⟨w.heap.size, 0, none⟩) hwlt).trans c0; have z1 := (hb4.cell (p := ⟨w.heap.size, 1, none⟩) hwlt).trans c1; have z2 := (hb4.cell (p := ⟨w.heap.size, 2, none⟩) hwlt).trans c2))
          have HB4 := Lib.hid (cur_step1 HB.out hb4)
          have HR4 := Lib.hid hr4
          clear hb4 hr4 c0 c1 c2 z0 z1 z2
          go_wp2_with (first
            | (go_at_call 10; refine (ck_p WA wc ws (some ⟨g4, 0, none⟩) cc4 L q1 0 _ hwl (by have := HLN.out; omega) (HWR.out.to HB4.out) HR4.out HSI.out HCK2.out).mono ?_; rintro e w5 ⟨rfl, hb5⟩; have HB5 := Lib.hid (cur_step1 HB4.out hb5); have HR5 := Lib.hid (HR4.out.to hb5); clear hb5))
          go_ret2
          obtain ⟨h1, h2⟩ := HS.out
          subst h1 h2
          exact ⟨some ⟨g4, 0, none⟩, cc4, rfl, HR5.out, HB5.out⟩
        · have hqn : (q2 == 0) = false := by simpa using hq2
          have HS := Lib.hid (show ([] : List Tr) = R ∧ q2 = E by have h := HS0.out; rw [if_pos hq2] at h; injection h with a b; exact ⟨a, b⟩)
          clear HS0
          go_enter Try.func15, Try.ntmps15
          go_wp2_with fail
          generalize w.alloc (Obj.cells #[.string t.p, .string t.t, .int .i64 t.d] 38) = w0 at hbk hbx ⊢
          have HB := Lib.hid hbx
          have HK := Lib.hid hbk
          clear hbk hbx
          refine (ck_p WA wc ws A c l r1 0 w0 hwl (by omega) (HWR.out.to HB.out) (HR.out.to HB.out) HSZ.out HCK.out).mono ?_
          rintro e w1 ⟨rfl, hb1⟩
          replace HB := Lib.hid (cur_step1 HB.out hb1)
          replace HK := Lib.hid (HK.out.to hb1)
          clear hb1
          go_wp2_with (first
            | (go_at_call 22; refine (cont_a A c l t w.heap.size false _ (by omega) (HR.out.to HB.out) (HK.out.cell 0) (HK.out.cell 1) (HK.out.cell 2) HK.out.lt HH.out).mono ?_; rintro e w2 ⟨rfl, hb2⟩; replace HB := Lib.hid (cur_step1 HB.out hb2); replace HK := Lib.hid (HK.out.to hb2); clear hb2)
            | (go_at_call 37; refine (idx_b A c l t w.heap.size (p : Int) _ (by omega) (HR.out.to HB.out) (HK.out.cell 0) (HK.out.cell 1) (HK.out.cell 2) HK.out.lt HF.out).mono ?_; rintro e w3 ⟨rfl, hb3⟩; replace HB := Lib.hid (cur_step1 HB.out hb3); replace HK := Lib.hid (HK.out.to hb3); clear hb3))
          obtain ⟨c0, c1, c2⟩ : w3.cell? ⟨w.heap.size, 0, none⟩ = some (.string t.p) ∧ w3.cell? ⟨w.heap.size, 1, none⟩ = some (.string t.t) ∧ w3.cell? ⟨w.heap.size, 2, none⟩ = some (.int .i64 t.d) := ⟨HK.out.cell 0, HK.out.cell 1, HK.out.cell 2⟩
          have hwlt := HK.out.lt
          go_region_held3 (fun w' => w'.cell? ⟨w.heap.size, 0, none⟩ = some (.string t.p) ∧ w'.cell? ⟨w.heap.size, 1, none⟩ = some (.string t.t) ∧ w'.cell? ⟨w.heap.size, 2, none⟩ = some (.int .i64 t.d))
            (first
              | (go_keep; done)
              | (refine ⟨?_, ?_, ?_⟩ <;> (go_keep; done)))
            ((go_at_call 39; (try generalize (if c = l.length then A else Option.map (fun x => x.add (l.length * 3)) A) = A3); refine (concat_ins p l L t A c _ _ _ w w3 hl (by omega) HLE.out (by omega) HB.out HR.out (Rd.drop' HR.out p hpl)).mono ?_; rintro e w4 ⟨g4, cc4, rfl, hr4, hb4⟩; have z0 := (hb4.cell (p := ⟨w.heap.size, 0, none⟩) hwlt).trans c0; have z1 := (hb4.cell (p := ⟨w.heap.size, 1, none⟩) hwlt).trans c1; have z2 := (hb4.cell (p := ⟨w.heap.size, 2, none⟩) hwlt).trans c2))
          have HB4 := Lib.hid (cur_step1 HB.out hb4)
          have HR4 := Lib.hid hr4
          clear hb4 hr4 c0 c1 c2 z0 z1 z2
          go_wp2_with (first
            | (go_at_call 10; refine (ck_p WA wc ws (some ⟨g4, 0, none⟩) cc4 L q1 q2 _ hwl (by have := HLN.out; omega) (HWR.out.to HB4.out) HR4.out HSI.out HCK2.out).mono ?_; rintro e w5 ⟨rfl, hb5⟩; have HB5 := Lib.hid (cur_step1 HB4.out hb5); have HR5 := Lib.hid (HR4.out.to hb5); clear hb5))
          go_ret2
          obtain ⟨h1, h2⟩ := HS.out
          subst h1 h2
          exact ⟨none, 0, rfl, Rd.nil_, HB5.out⟩
    · have HH := Lib.hid hh
      have HS := Lib.hid (show ([] : List Tr) = R ∧ (7 : Int) = E by have h := hs; unfold addS at h; rw [hck, hh] at h; injection h with a b; exact ⟨a, b⟩)
      obtain ⟨h1, h2⟩ := HS.out
      subst h1 h2
      clear hs hh hck
      go_enter Try.func15, Try.ntmps15
      go_wp2_with fail
      generalize w.alloc (Obj.cells #[.string t.p, .string t.t, .int .i64 t.d] 38) = w0 at hbk hbx ⊢
      have HB := Lib.hid hbx
      have HK := Lib.hid hbk
      clear hbk hbx
      refine (ck_p WA wc ws A c l r1 0 w0 hwl (by omega) (HWR.out.to HB.out) (HR.out.to HB.out) HSZ.out HCK.out).mono ?_
      rintro e w1 ⟨rfl, hb1⟩
      replace HB := Lib.hid (cur_step1 HB.out hb1)
      replace HK := Lib.hid (HK.out.to hb1)
      clear hb1
      go_wp2_with (go_at_call 22; refine (cont_a A c l t w.heap.size true _ (by omega) (HR.out.to HB.out) (HK.out.cell 0) (HK.out.cell 1) (HK.out.cell 2) HK.out.lt HH.out).mono ?_; rintro e w2 ⟨rfl, hb2⟩; replace HB := Lib.hid (cur_step1 HB.out hb2); clear hb2)
      go_ret2
      exact ⟨none, 0, rfl, Rd.nil_, HB.out⟩
  · have hrn : (r2 == 0) = false := by simpa using hr2
    have HS := Lib.hid (show ([] : List Tr) = R ∧ r2 = E by have h := hs; unfold addS at h; rw [hck, if_pos hr2] at h; injection h with a b; exact ⟨a, b⟩)
    obtain ⟨h1, h2⟩ := HS.out
    subst h1 h2
    clear hs hck
    go_enter Try.func15, Try.ntmps15
    go_wp2_with fail
    generalize w.alloc (Obj.cells #[.string t.p, .string t.t, .int .i64 t.d] 38) = w0 at hbk hbx ⊢
    refine (ck_p WA wc ws A c l r1 r2 w0 hwl (by omega) (HWR.out.to hbx) (HR.out.to hbx) HSZ.out HCK.out).mono ?_
    rintro e w1 ⟨rfl, hb1⟩
    go_wp2_with fail
    go_ret2
    exact ⟨none, 0, rfl, Rd.nil_, cur_step1 hbx hb1⟩
end Go.Proofs.Ytleegellkeedhaa
