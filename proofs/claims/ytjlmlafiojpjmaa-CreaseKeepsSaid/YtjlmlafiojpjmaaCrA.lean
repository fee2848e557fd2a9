/-
  Chapter 12: the law's do.
-/
import Derived.Test.YtjlmlafiojpjmaaCrT
import Derived.Test.YtjlmlafiojpjmaaCrR
import Derived.Deep.MidRow
set_option linter.unusedSimpArgs false
set_option linter.unusedVariables false
namespace Go.Proofs.Ytjlmlafiojpjmaa
open Go.RowKit
set_option maxRecDepth 100000
set_option maxHeartbeats 4000000
/-- Something that is done. -/
structure Ac where
  kind : Int
  n : Int
  m : Int
  on : Bool
  ball : Dl
def acC (a : Ac) : List Value := .int .u8 a.kind :: .int .i64 a.n :: .int .i64 a.m :: .bool a.on :: dlC a.ball
theorem dl_info : (Try.prog.info? 42).map (·.size) = some 12 := by kernel_rfl
theorem acC_len (a : Ac) : (acC a).length = 16 := rfl
def doS (I : Inn) (a : Ac) : Inn × Int :=
  if a.kind.tmod 7 = 0 then openS I a.n a.m
  else if a.kind.tmod 7 = 1 ∨ a.kind.tmod 7 = 2 then (ranS I a.ball, 0)
  else if a.kind.tmod 7 = 3 then (changeS I, 0)
  else if a.kind.tmod 7 = 4 then enterS I a.n
  else if a.kind.tmod 7 = 5 then timeoutS I a.n
  else retireS I a.n a.on
/-- The prelude of do: the argument, the act, the result. -/
structure Ds (w wc : World) (V : Ls) (I : Inn) (a : Ac) : Prop where
  inn : Blk wc w.heap.size 32 (I.cells V)
  act : Blk wc (w.heap.size + 1) 46 (acC a)
  res : Blk wc (w.heap.size + 1 + 1) 32 zeroL
  bel : Below w.heap.size w wc
theorem Ds.to {w wc wd : World} {V : Ls} {I : Inn} {a : Ac} (h : Ds w wc V I a) (hb : Below wc.heap.size wc wd) : Ds w wd V I a := ⟨h.inn.to hb, h.act.to hb, h.res.to hb, cur_step1 h.bel hb⟩
theorem Ds.fin {w wc wd : World} {V U : Ls} {I J : Inn} {a : Ac} (h : Ds w wc V I a) (ho : InnO wd wc.heap.size U J) (hb : Below wc.heap.size wc wd) :
    Blk (wd.setRow (w.heap.size + 1 + 1) (J.cells U).toArray) (w.heap.size + 1 + 1) 32 (J.cells U) ∧ InnO (wd.setRow (w.heap.size + 1 + 1) (J.cells U).toArray) w.heap.size U J ∧ Below w.heap.size w (wd.setRow (w.heap.size + 1 + 1) (J.cells U).toArray) := by
  have h1 := (h.to hb)
  have h2 := h.res.lt
  exact ⟨blk_row h1.res _, (ho.row (ho.away (.inl h2)) _).mono h.bel.size, row_below h1.bel (by omega) _⟩
def DoQ (w : World) (J : Inn) (v : Int) (e : Ending) (w' : World) : Prop := ∃ U, e = .returned (.tuple #[.agg (J.cells U).toArray, .int .i64 v]) ∧ InnO w' w.heap.size U J ∧ Below w.heap.size w w'
theorem do_p (I : Inn) (V : Ls) (a : Ac) (w : World) (hl : I.Few) (hV : InnR w V I) (ha : 0 ≤ a.kind ∧ a.kind ≤ 255) :
    Calls Try.prog 13 #[.agg (I.cells V).toArray, .agg (acC a).toArray] w fun e w' => DoQ w (doS I a).1 (doS I a).2 e w' := by
  have HL := Lib.hid hl
  have HV := Lib.hid hV
  obtain ⟨k, hk⟩ : ∃ k, a.kind.tmod 7 = k := ⟨_, rfl⟩
  have hk7 : 0 ≤ k ∧ k ≤ 6 := by rw [← hk, Int.tmod_eq_emod_of_nonneg ha.1]; omega
  obtain ⟨J, v, hJ⟩ : ∃ J v, doS I a = (J, v) := ⟨_, _, rfl⟩
  rw [hJ]
  have HJ := Lib.hid hJ
  unfold doS at hJ
  rw [hk] at hJ
  obtain ⟨hin, hac, hre, hb0⟩ := entry3 w (I.cells V) (acC a) [.int .i64 0, .int .i64 0, .int .i64 0, .int .i64 0, .int .i64 0, .int .i64 0, .int .i64 0, .int .i64 0, .int .i64 0, .int .i64 0, .int .i64 0, .int .i64 0, .int .i64 0, .int .i64 0, .slice none 0 0, .int .i64 0, .slice none 0 0, .slice none 0 0, .bool false, .slice none 0 0, .bool false, .int .i64 0, .int .i64 0, .int .i64 0, .slice none 0 0, .int .i64 0, .int .i64 0, .int .u8 0] 32 46 32
  obtain ⟨w0, hw0⟩ : ∃ y, ((w.alloc (.cells (I.cells V).toArray 32)).alloc (.cells (acC a).toArray 46)).alloc (.cells [.int .i64 0, .int .i64 0, .int .i64 0, .int .i64 0, .int .i64 0, .int .i64 0, .int .i64 0, .int .i64 0, .int .i64 0, .int .i64 0, .int .i64 0, .int .i64 0, .int .i64 0, .int .i64 0, .slice none 0 0, .int .i64 0, .slice none 0 0, .slice none 0 0, .bool false, .slice none 0 0, .bool false, .int .i64 0, .int .i64 0, .int .i64 0, .slice none 0 0, .int .i64 0, .int .i64 0, .int .u8 0].toArray 32) = y := ⟨_, rfl⟩
  rw [hw0] at hin hac hre hb0
  have S0 := Lib.hid hw0
  have HC := Lib.hid (Ds.mk hin hac hre hb0)
  have c0 : w0.cell? ⟨w.heap.size + 1, 0, none⟩ = some (.int .u8 a.kind) := hac.cell 0
  have c1 : w0.cell? ⟨w.heap.size + 1, 1, none⟩ = some (.int .i64 a.n) := hac.cell 1
  have c2 : w0.cell? ⟨w.heap.size + 1, 2, none⟩ = some (.int .i64 a.m) := hac.cell 2
  have c3 : w0.cell? ⟨w.heap.size + 1, 3, none⟩ = some (.bool a.on) := hac.cell 3
  have HMID := Lib.hid (show w0.rangeAt (w.heap.size + 1) 4 (dlC a.ball) from fun j u hj => by
    rw [hac.cell]
    show (acC a)[4 + j]? = some u
    have : (acC a)[4 + j]? = (dlC a.ball)[j]? := by rw [Nat.add_comm]; rfl
    rw [this]; exact hj)
  clear hl hV hin hac hre hb0 hw0 ha
  rcases (show k = 0 ∨ k = 1 ∨ k = 2 ∨ k = 3 ∨ k = 4 ∨ k = 5 ∨ k = 6 by omega) with rfl | rfl | rfl | rfl | rfl | rfl | rfl
  · have HE := Lib.hid (show openS I a.n a.m = (J, v) from hJ)
    clear hJ hk7
    go_enter Try.func13, Try.ntmps13
    go_wp2_with (first
      | rw [S0.out]
      | (refine wpList_load_row rfl 32 _ rfl w.heap.size (by rfl) 32 (I.cells V).toArray (0, 0) _ HC.out.inn Try.underlying32 rfl inn_info ?_)
      | (refine wpList_load_mid rfl 42 _ rfl (w.heap.size + 1) 4 (by rfl) (dlC a.ball) _ HMID.out Try.underlying42 rfl dl_info ?_))
    have hcall := open_p I V a.n a.m w0 HL.out (HV.out.to HC.out.bel)
    rw [HE.out] at hcall
    refine hcall.mono ?_
    clear hcall
    rintro e wx ⟨U, rfl, ho, hbx⟩
    have HON := Lib.hid ho.ones
    have HBX := Lib.hid hbx
    have HF := Lib.hid (HC.out.fin ho hbx)
    clear ho hbx
    go_wp2_with (refine wpList_storeC rfl _ _ 32 rfl (w.heap.size + 1 + 1) 32 zeroL (J.cells U).toArray inn_info (by rfl) (by rfl) (HC.out.to HBX.out).res rfl (Inn.one _ HON.out) ?_)
    obtain ⟨f1, f2, f3⟩ := HF.out
    refine ret_cell2 (g := w.heap.size + 1 + 1) (xs := J.cells U) rfl rfl rfl f1 Try.underlying32 rfl inn_info rfl ?_
    exact ⟨U, rfl, f2, f3⟩
  · have HE := Lib.hid (show (ranS I a.ball, 0) = (J, v) from hJ)
    clear hJ hk7
    go_enter Try.func13, Try.ntmps13
    go_wp2_with (first
      | rw [S0.out]
      | (refine wpList_load_row rfl 32 _ rfl w.heap.size (by rfl) 32 (I.cells V).toArray (0, 0) _ HC.out.inn Try.underlying32 rfl inn_info ?_)
      | (refine wpList_load_mid rfl 42 _ rfl (w.heap.size + 1) 4 (by rfl) (dlC a.ball) _ HMID.out Try.underlying42 rfl dl_info ?_))
    have hcall := ran_p I V a.ball w0 HL.out (HV.out.to HC.out.bel)
    have he := HE.out
    injection he with he1 he2
    subst he1 he2
    refine hcall.mono ?_
    clear hcall
    rintro e wx ⟨U, rfl, ho, hbx⟩
    have HON := Lib.hid ho.ones
    have HBX := Lib.hid hbx
    have HF := Lib.hid (HC.out.fin ho hbx)
    clear ho hbx
    go_wp2_with (refine wpList_storeC rfl _ _ 32 rfl (w.heap.size + 1 + 1) 32 zeroL ((ranS I a.ball).cells U).toArray inn_info (by rfl) (by rfl) (HC.out.to HBX.out).res rfl (Inn.one _ HON.out) ?_)
    obtain ⟨f1, f2, f3⟩ := HF.out
    refine ret_cell2 (g := w.heap.size + 1 + 1) (xs := (ranS I a.ball).cells U) rfl rfl rfl f1 Try.underlying32 rfl inn_info rfl ?_
    exact ⟨U, rfl, f2, f3⟩
  · have HE := Lib.hid (show (ranS I a.ball, 0) = (J, v) from hJ)
    clear hJ hk7
    go_enter Try.func13, Try.ntmps13
    go_wp2_with (first
      | rw [S0.out]
      | (refine wpList_load_row rfl 32 _ rfl w.heap.size (by rfl) 32 (I.cells V).toArray (0, 0) _ HC.out.inn Try.underlying32 rfl inn_info ?_)
      | (refine wpList_load_mid rfl 42 _ rfl (w.heap.size + 1) 4 (by rfl) (dlC a.ball) _ HMID.out Try.underlying42 rfl dl_info ?_))
    have hcall := ran_p I V a.ball w0 HL.out (HV.out.to HC.out.bel)
    have he := HE.out
    injection he with he1 he2
    subst he1 he2
    refine hcall.mono ?_
    clear hcall
    rintro e wx ⟨U, rfl, ho, hbx⟩
    have HON := Lib.hid ho.ones
    have HBX := Lib.hid hbx
    have HF := Lib.hid (HC.out.fin ho hbx)
    clear ho hbx
    go_wp2_with (refine wpList_storeC rfl _ _ 32 rfl (w.heap.size + 1 + 1) 32 zeroL ((ranS I a.ball).cells U).toArray inn_info (by rfl) (by rfl) (HC.out.to HBX.out).res rfl (Inn.one _ HON.out) ?_)
    obtain ⟨f1, f2, f3⟩ := HF.out
    refine ret_cell2 (g := w.heap.size + 1 + 1) (xs := (ranS I a.ball).cells U) rfl rfl rfl f1 Try.underlying32 rfl inn_info rfl ?_
    exact ⟨U, rfl, f2, f3⟩
  · have HE := Lib.hid (show (changeS I, 0) = (J, v) from hJ)
    clear hJ hk7
    go_enter Try.func13, Try.ntmps13
    go_wp2_with (first
      | rw [S0.out]
      | (refine wpList_load_row rfl 32 _ rfl w.heap.size (by rfl) 32 (I.cells V).toArray (0, 0) _ HC.out.inn Try.underlying32 rfl inn_info ?_)
      | (refine wpList_load_mid rfl 42 _ rfl (w.heap.size + 1) 4 (by rfl) (dlC a.ball) _ HMID.out Try.underlying42 rfl dl_info ?_))
    have hcall := change_p I V w0 HL.out (HV.out.to HC.out.bel)
    have he := HE.out
    injection he with he1 he2
    subst he1 he2
    refine hcall.mono ?_
    clear hcall
    rintro e wx ⟨U, rfl, ho, hbx⟩
    have HON := Lib.hid ho.ones
    have HBX := Lib.hid hbx
    have HF := Lib.hid (HC.out.fin ho hbx)
    clear ho hbx
    go_wp2_with (refine wpList_storeC rfl _ _ 32 rfl (w.heap.size + 1 + 1) 32 zeroL ((changeS I).cells U).toArray inn_info (by rfl) (by rfl) (HC.out.to HBX.out).res rfl (Inn.one _ HON.out) ?_)
    obtain ⟨f1, f2, f3⟩ := HF.out
    refine ret_cell2 (g := w.heap.size + 1 + 1) (xs := (changeS I).cells U) rfl rfl rfl f1 Try.underlying32 rfl inn_info rfl ?_
    exact ⟨U, rfl, f2, f3⟩
  · have HE := Lib.hid (show enterS I a.n = (J, v) from hJ)
    clear hJ hk7
    go_enter Try.func13, Try.ntmps13
    go_wp2_with (first
      | rw [S0.out]
      | (refine wpList_load_row rfl 32 _ rfl w.heap.size (by rfl) 32 (I.cells V).toArray (0, 0) _ HC.out.inn Try.underlying32 rfl inn_info ?_)
      | (refine wpList_load_mid rfl 42 _ rfl (w.heap.size + 1) 4 (by rfl) (dlC a.ball) _ HMID.out Try.underlying42 rfl dl_info ?_))
    have hcall := enter_p I V a.n w0 HL.out (HV.out.to HC.out.bel)
    rw [HE.out] at hcall
    refine hcall.mono ?_
    clear hcall
    rintro e wx ⟨U, rfl, ho, hbx⟩
    have HON := Lib.hid ho.ones
    have HBX := Lib.hid hbx
    have HF := Lib.hid (HC.out.fin ho hbx)
    clear ho hbx
    go_wp2_with (refine wpList_storeC rfl _ _ 32 rfl (w.heap.size + 1 + 1) 32 zeroL (J.cells U).toArray inn_info (by rfl) (by rfl) (HC.out.to HBX.out).res rfl (Inn.one _ HON.out) ?_)
    obtain ⟨f1, f2, f3⟩ := HF.out
    refine ret_cell2 (g := w.heap.size + 1 + 1) (xs := J.cells U) rfl rfl rfl f1 Try.underlying32 rfl inn_info rfl ?_
    exact ⟨U, rfl, f2, f3⟩
  · have HE := Lib.hid (show timeoutS I a.n = (J, v) from hJ)
    clear hJ hk7
    go_enter Try.func13, Try.ntmps13
    go_wp2_with (first
      | rw [S0.out]
      | (refine wpList_load_row rfl 32 _ rfl w.heap.size (by rfl) 32 (I.cells V).toArray (0, 0) _ HC.out.inn Try.underlying32 rfl inn_info ?_)
      | (refine wpList_load_mid rfl 42 _ rfl (w.heap.size + 1) 4 (by rfl) (dlC a.ball) _ HMID.out Try.underlying42 rfl dl_info ?_))
    have hcall := timeout_p I V a.n w0 HL.out (HV.out.to HC.out.bel)
    rw [HE.out] at hcall
    refine hcall.mono ?_
    clear hcall
    rintro e wx ⟨U, rfl, ho, hbx⟩
    have HON := Lib.hid ho.ones
    have HBX := Lib.hid hbx
    have HF := Lib.hid (HC.out.fin ho hbx)
    clear ho hbx
    go_wp2_with (refine wpList_storeC rfl _ _ 32 rfl (w.heap.size + 1 + 1) 32 zeroL (J.cells U).toArray inn_info (by rfl) (by rfl) (HC.out.to HBX.out).res rfl (Inn.one _ HON.out) ?_)
    obtain ⟨f1, f2, f3⟩ := HF.out
    refine ret_cell2 (g := w.heap.size + 1 + 1) (xs := J.cells U) rfl rfl rfl f1 Try.underlying32 rfl inn_info rfl ?_
    exact ⟨U, rfl, f2, f3⟩
  · have HE := Lib.hid (show retireS I a.n a.on = (J, v) from hJ)
    clear hJ hk7
    go_enter Try.func13, Try.ntmps13
    go_wp2_with (first
      | rw [S0.out]
      | (refine wpList_load_row rfl 32 _ rfl w.heap.size (by rfl) 32 (I.cells V).toArray (0, 0) _ HC.out.inn Try.underlying32 rfl inn_info ?_)
      | (refine wpList_load_mid rfl 42 _ rfl (w.heap.size + 1) 4 (by rfl) (dlC a.ball) _ HMID.out Try.underlying42 rfl dl_info ?_))
    have hcall := retire_p I V a.n a.on w0 HL.out (HV.out.to HC.out.bel)
    rw [HE.out] at hcall
    refine hcall.mono ?_
    clear hcall
    rintro e wx ⟨U, rfl, ho, hbx⟩
    have HON := Lib.hid ho.ones
    have HBX := Lib.hid hbx
    have HF := Lib.hid (HC.out.fin ho hbx)
    clear ho hbx
    go_wp2_with (refine wpList_storeC rfl _ _ 32 rfl (w.heap.size + 1 + 1) 32 zeroL (J.cells U).toArray inn_info (by rfl) (by rfl) (HC.out.to HBX.out).res rfl (Inn.one _ HON.out) ?_)
    obtain ⟨f1, f2, f3⟩ := HF.out
    refine ret_cell2 (g := w.heap.size + 1 + 1) (xs := J.cells U) rfl rfl rfl f1 Try.underlying32 rfl inn_info rfl ?_
    exact ⟨U, rfl, f2, f3⟩
end Go.Proofs.Ytjlmlafiojpjmaa
