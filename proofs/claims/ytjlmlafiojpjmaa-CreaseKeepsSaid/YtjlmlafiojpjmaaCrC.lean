/-
  Chapter 12: Change and Open, with any lists.
-/
import Derived.Test.YtjlmlafiojpjmaaCrS
import Derived.Deep.DeepCutAuto
import Derived.Deep.CutBlock
import Derived.BigGuard
set_option linter.unusedSimpArgs false
set_option linter.unusedVariables false
namespace Go.Proofs.Ytjlmlafiojpjmaa
open Go.RowKit
set_option maxRecDepth 100000
set_option maxHeartbeats 4000000
def changeS (I : Inn) : Inn := { I with st := I.ot, ot := I.st }
theorem change_p (I : Inn) (V : Ls) (w : World) (hl : I.Few) (hV : InnR w V I) :
    Calls Try.prog 10 #[.agg (I.cells V).toArray] w fun e w' => ∃ U, e = .returned (.agg (((changeS I)).cells U).toArray) ∧ InnO w' w.heap.size U ((changeS I)) ∧ Below w.heap.size w w' := by
  have HL := Lib.hid hl
  have HV := Lib.hid hV
  clear hl hV
  go_enter Try.func10, Try.ntmps10
  go_wp2_with (first
    | (refine wpList_load_row rfl 32 _ rfl w.heap.size (by rfl) 32 (I.cells V).toArray (0, 0) _ ((Blk.new w _ _).to (cur_new _ _)) Try.underlying32 rfl inn_info ?_))
  obtain ⟨hin, hre, hb0⟩ := entry2 w (I.cells V) [.int .i64 0, .int .i64 0, .int .i64 0, .int .i64 0, .int .i64 0, .int .i64 0, .int .i64 0, .int .i64 0, .int .i64 0, .int .i64 0, .int .i64 0, .int .i64 0, .int .i64 0, .int .i64 0, .slice none 0 0, .int .i64 0, .slice none 0 0, .slice none 0 0, .bool false, .slice none 0 0, .bool false, .int .i64 0, .int .i64 0, .int .i64 0, .slice none 0 0, .int .i64 0, .int .i64 0, .int .u8 0] 32 32
  generalize (w.alloc (Obj.cells (I.cells V).toArray 32)).alloc (Obj.cells [.int .i64 0, .int .i64 0, .int .i64 0, .int .i64 0, .int .i64 0, .int .i64 0, .int .i64 0, .int .i64 0, .int .i64 0, .int .i64 0, .int .i64 0, .int .i64 0, .int .i64 0, .int .i64 0, .slice none 0 0, .int .i64 0, .slice none 0 0, .slice none 0 0, .bool false, .slice none 0 0, .bool false, .int .i64 0, .int .i64 0, .int .i64 0, .slice none 0 0, .int .i64 0, .int .i64 0, .int .u8 0].toArray 32) = w0 at hin hre hb0 ⊢
  refine (own_f I V w0 HL.out (HV.out.to hb0)).mono ?_
  rintro e w1 ⟨U, rfl, ho, hb1⟩
  have HC := Lib.hid (Cs.start hin hre hb0 (by omega) (Nat.le_refl _) (by omega) ho hb1)
  have HON := Lib.hid ho.ones
  clear hin hre hb0 ho hb1
  obtain ⟨w2, hw2⟩ : ∃ y, w1.alloc (.cells (I.cells U).toArray 32) = y := ⟨_, rfl⟩
  rw [hw2] at HC
  have S2 := Lib.hid hw2
  clear hw2
  go_upto_region 2 with (refine wpList_storeNew rfl _ _ 32 rfl _ (I.cells U).toArray inn_info (by rfl) (by rfl) rfl (Inn.one _ HON.out) ?_; rw [S2.out])
  obtain ⟨G, hG⟩ : ∃ y, w1.heap.size = y := ⟨_, rfl⟩
  rw [hG] at HC ⊢
  clear S2 hG
  have c1 := HC.out.ist
  have c2 := HC.out.iot
  have c3 := HC.out.st
  have c4 := HC.out.ot
  have f1 := HC.out.fr 12
  have f2 := HC.out.fr 13
  have HC3 := Lib.hid (HC.out.setSt I.ot)
  have d1 := HC3.out.ist
  have d2 := HC3.out.iot
  have d4 : (w2.setCell ⟨G, 12, none⟩ (.int .i64 I.ot)).cell? ⟨G, 13, none⟩ = some (.int .i64 I.ot) := HC3.out.ot
  have d5 := HC3.out.fr 13
  have HC4 := Lib.hid (HC3.out.setOt I.st)
  go_region
  all_goals
    have HC := Lib.hid (HC4.out.to ((Below.refl _ _).drew))
    clear c1 c2 c3 c4 f1 f2 d1 d2 d4 d5 HC3 HC4
    generalize ((w2.setCell ⟨G, 12, none⟩ (.int .i64 I.ot)).setCell ⟨G, 13, none⟩ (.int .i64 I.st)).drew = w5 at HC ⊢
    have HC := Lib.hid (show Cs w w5 w.heap.size (w.heap.size + 1) G V I U (changeS I) from HC.out)
    go_wp2_with (first
      | (refine wpList_load_row rfl 32 _ rfl w.heap.size (by rfl) 32 (I.cells V).toArray (0, 0) _ HC.out.inn Try.underlying32 rfl inn_info ?_)
      | (refine wpList_load_g (by rfl) 32 _ rfl w.heap.size (by rfl) 32 (I.cells V).toArray (0, 0) _ HC.out.inn Try.underlying32 rfl inn_info ?_)
      | (refine wpList_load_row rfl 32 _ rfl G (by rfl) 32 ((changeS I).cells U).toArray (0, 0) _ HC.out.aft Try.underlying32 rfl inn_info ?_)
      | (refine wpList_storeC rfl _ _ 32 rfl (w.heap.size + 1) 32 zeroL ((changeS I).cells U).toArray inn_info (by rfl) (by rfl) HC.out.res rfl (Inn.one _ HON.out) ?_))
    obtain ⟨f1, f2, f3⟩ := HC.out.fin
    refine ret_cell (g := w.heap.size + 1) (xs := (changeS I).cells U) rfl rfl f1 Try.underlying32 rfl inn_info rfl ?_
    exact ⟨U, rfl, f2, f3⟩
def openS (I : Inn) (a c : Int) : Inn × Int :=
  if begunL I.b = true then (I, 1) else if knownS I a = false ∨ knownS I c = false then (I, 3) else if a = c then (I, 4)
  else ({ I with b := (I.b.set (a.toNat - 1) 1).set (c.toNat - 1) 1, st := a, ot := c }, 0)
def openJ (I : Inn) (x y : Nat) : Inn := { I with b := (I.b.set x 1).set y 1, st := x + 1, ot := y + 1 }
theorem known_nat {I : Inn} {p : Int} (h : knownS I p = true) : ∃ P : Nat, p = P + 1 ∧ P < I.b.length := by
  unfold knownS at h
  simp at h
  exact ⟨p.toNat - 1, by omega, by omega⟩
theorem open_p (I : Inn) (V : Ls) (a c : Int) (w : World) (hl : I.Few) (hV : InnR w V I) :
    Calls Try.prog 7 #[.agg (I.cells V).toArray, .int .i64 a, .int .i64 c] w fun e w' => ∃ U, e = .returned (.tuple #[.agg ((openS I a c).1.cells U).toArray, .int .i64 (openS I a c).2]) ∧ InnO w' w.heap.size U ((openS I a c).1) ∧ Below w.heap.size w w' := by
  have HL := Lib.hid hl
  have HV := Lib.hid hV
  clear hl hV
  cases hb : begunL I.b
  · have HB := Lib.hid hb
    cases hka : knownS I a
    · have HKA := Lib.hid hka
      have HS := Lib.hid (show openS I a c = (I, 3) by unfold openS; rw [hb, hka]; simp)
      rw [HS.out]
      clear hb hka
      go_enter Try.func7, Try.ntmps7
      go_wp2_with (first
        | (refine wpList_load_row rfl 32 _ rfl w.heap.size (by rfl) 32 (I.cells V).toArray (0, 0) _ ((Blk.new w _ _).to (cur_new _ _)) Try.underlying32 rfl inn_info ?_))
      obtain ⟨hin, hre, hb0⟩ := entry2 w (I.cells V) [.int .i64 0, .int .i64 0, .int .i64 0, .int .i64 0, .int .i64 0, .int .i64 0, .int .i64 0, .int .i64 0, .int .i64 0, .int .i64 0, .int .i64 0, .int .i64 0, .int .i64 0, .int .i64 0, .slice none 0 0, .int .i64 0, .slice none 0 0, .slice none 0 0, .bool false, .slice none 0 0, .bool false, .int .i64 0, .int .i64 0, .int .i64 0, .slice none 0 0, .int .i64 0, .int .i64 0, .int .u8 0] 32 32
      generalize (w.alloc (Obj.cells (I.cells V).toArray 32)).alloc (Obj.cells [.int .i64 0, .int .i64 0, .int .i64 0, .int .i64 0, .int .i64 0, .int .i64 0, .int .i64 0, .int .i64 0, .int .i64 0, .int .i64 0, .int .i64 0, .int .i64 0, .int .i64 0, .int .i64 0, .slice none 0 0, .int .i64 0, .slice none 0 0, .slice none 0 0, .bool false, .slice none 0 0, .bool false, .int .i64 0, .int .i64 0, .int .i64 0, .slice none 0 0, .int .i64 0, .int .i64 0, .int .u8 0].toArray 32) = w0 at hin hre hb0 ⊢
      refine (own_f I V w0 HL.out (HV.out.to hb0)).mono ?_
      rintro e w1 ⟨U, rfl, ho, hb1⟩
      have HC := Lib.hid (Cs.start hin hre hb0 (by omega) (Nat.le_refl _) (by omega) ho hb1)
      have HON := Lib.hid ho.ones
      clear hin hre hb0 ho hb1
      obtain ⟨w2, hw2⟩ : ∃ y, w1.alloc (.cells (I.cells U).toArray 32) = y := ⟨_, rfl⟩
      rw [hw2] at HC
      have S2 := Lib.hid hw2
      clear hw2
      go_upto_region 2 with (refine wpList_storeNew rfl _ _ 32 rfl _ (I.cells U).toArray inn_info (by rfl) (by rfl) rfl (Inn.one _ HON.out) ?_; rw [S2.out])
      obtain ⟨G, hG⟩ : ∃ y, w1.heap.size = y := ⟨_, rfl⟩
      rw [hG] at HC ⊢
      clear S2 hG
      go_wp2_with (first
        | (refine wpList_load_row rfl 32 _ rfl w.heap.size (by rfl) 32 (I.cells V).toArray (0, 0) _ HC.out.inn Try.underlying32 rfl inn_info ?_)
        | (refine wpList_load_g (by rfl) 32 _ rfl w.heap.size (by rfl) 32 (I.cells V).toArray (0, 0) _ HC.out.inn Try.underlying32 rfl inn_info ?_)
        | (refine wpList_load_row rfl 32 _ rfl G (by rfl) 32 ((I).cells U).toArray (0, 0) _ HC.out.aft Try.underlying32 rfl inn_info ?_)
        | (refine wpList_storeC rfl _ _ 32 rfl (w.heap.size + 1) 32 zeroL ((I).cells U).toArray inn_info (by rfl) (by rfl) HC.out.res rfl (Inn.one _ HON.out) ?_))
      refine (begun_f I V _ _ HL.out (HV.out.to HC.out.bel) HB.out).mono ?_
      rintro e wx ⟨rfl, hbx⟩
      have HC := Lib.hid (HC.out.to hbx)
      clear hbx
      go_wp2_with (first
        | (refine wpList_load_row rfl 32 _ rfl w.heap.size (by rfl) 32 (I.cells V).toArray (0, 0) _ HC.out.inn Try.underlying32 rfl inn_info ?_)
        | (refine wpList_load_g (by rfl) 32 _ rfl w.heap.size (by rfl) 32 (I.cells V).toArray (0, 0) _ HC.out.inn Try.underlying32 rfl inn_info ?_)
        | (refine wpList_load_row rfl 32 _ rfl G (by rfl) 32 ((I).cells U).toArray (0, 0) _ HC.out.aft Try.underlying32 rfl inn_info ?_)
        | (refine wpList_storeC rfl _ _ 32 rfl (w.heap.size + 1) 32 zeroL ((I).cells U).toArray inn_info (by rfl) (by rfl) HC.out.res rfl (Inn.one _ HON.out) ?_))
      refine (known_f I V a _ _ HL.out (HV.out.to HC.out.bel) HKA.out).mono ?_
      rintro e wx ⟨rfl, hbx⟩
      have HC := Lib.hid (HC.out.to hbx)
      clear hbx
      go_wp2_with (first
        | (refine wpList_load_row rfl 32 _ rfl w.heap.size (by rfl) 32 (I.cells V).toArray (0, 0) _ HC.out.inn Try.underlying32 rfl inn_info ?_)
        | (refine wpList_load_g (by rfl) 32 _ rfl w.heap.size (by rfl) 32 (I.cells V).toArray (0, 0) _ HC.out.inn Try.underlying32 rfl inn_info ?_)
        | (refine wpList_load_row rfl 32 _ rfl G (by rfl) 32 ((I).cells U).toArray (0, 0) _ HC.out.aft Try.underlying32 rfl inn_info ?_)
        | (refine wpList_storeC rfl _ _ 32 rfl (w.heap.size + 1) 32 zeroL ((I).cells U).toArray inn_info (by rfl) (by rfl) HC.out.res rfl (Inn.one _ HON.out) ?_))
      obtain ⟨f1, f2, f3⟩ := HC.out.fin
      refine ret_cell2 (g := w.heap.size + 1) (xs := (I).cells U) rfl rfl rfl f1 Try.underlying32 rfl inn_info rfl ?_
      exact ⟨U, rfl, f2, f3⟩
    · have HKA := Lib.hid hka
      cases hkc : knownS I c
      · have HKC := Lib.hid hkc
        have HS := Lib.hid (show openS I a c = (I, 3) by unfold openS; rw [hb, hka, hkc]; simp)
        rw [HS.out]
        clear hb hka hkc
        go_enter Try.func7, Try.ntmps7
        go_wp2_with (first
          | (refine wpList_load_row rfl 32 _ rfl w.heap.size (by rfl) 32 (I.cells V).toArray (0, 0) _ ((Blk.new w _ _).to (cur_new _ _)) Try.underlying32 rfl inn_info ?_))
        obtain ⟨hin, hre, hb0⟩ := entry2 w (I.cells V) [.int .i64 0, .int .i64 0, .int .i64 0, .int .i64 0, .int .i64 0, .int .i64 0, .int .i64 0, .int .i64 0, .int .i64 0, .int .i64 0, .int .i64 0, .int .i64 0, .int .i64 0, .int .i64 0, .slice none 0 0, .int .i64 0, .slice none 0 0, .slice none 0 0, .bool false, .slice none 0 0, .bool false, .int .i64 0, .int .i64 0, .int .i64 0, .slice none 0 0, .int .i64 0, .int .i64 0, .int .u8 0] 32 32
        generalize (w.alloc (Obj.cells (I.cells V).toArray 32)).alloc (Obj.cells [.int .i64 0, .int .i64 0, .int .i64 0, .int .i64 0, .int .i64 0, .int .i64 0, .int .i64 0, .int .i64 0, .int .i64 0, .int .i64 0, .int .i64 0, .int .i64 0, .int .i64 0, .int .i64 0, .slice none 0 0, .int .i64 0, .slice none 0 0, .slice none 0 0, .bool false, .slice none 0 0, .bool false, .int .i64 0, .int .i64 0, .int .i64 0, .slice none 0 0, .int .i64 0, .int .i64 0, .int .u8 0].toArray 32) = w0 at hin hre hb0 ⊢
        refine (own_f I V w0 HL.out (HV.out.to hb0)).mono ?_
        rintro e w1 ⟨U, rfl, ho, hb1⟩
        have HC := Lib.hid (Cs.start hin hre hb0 (by omega) (Nat.le_refl _) (by omega) ho hb1)
        have HON := Lib.hid ho.ones
        clear hin hre hb0 ho hb1
        obtain ⟨w2, hw2⟩ : ∃ y, w1.alloc (.cells (I.cells U).toArray 32) = y := ⟨_, rfl⟩
        rw [hw2] at HC
        have S2 := Lib.hid hw2
        clear hw2
        go_upto_region 2 with (refine wpList_storeNew rfl _ _ 32 rfl _ (I.cells U).toArray inn_info (by rfl) (by rfl) rfl (Inn.one _ HON.out) ?_; rw [S2.out])
        obtain ⟨G, hG⟩ : ∃ y, w1.heap.size = y := ⟨_, rfl⟩
        rw [hG] at HC ⊢
        clear S2 hG
        go_wp2_with (first
          | (refine wpList_load_row rfl 32 _ rfl w.heap.size (by rfl) 32 (I.cells V).toArray (0, 0) _ HC.out.inn Try.underlying32 rfl inn_info ?_)
          | (refine wpList_load_g (by rfl) 32 _ rfl w.heap.size (by rfl) 32 (I.cells V).toArray (0, 0) _ HC.out.inn Try.underlying32 rfl inn_info ?_)
          | (refine wpList_load_row rfl 32 _ rfl G (by rfl) 32 ((I).cells U).toArray (0, 0) _ HC.out.aft Try.underlying32 rfl inn_info ?_)
          | (refine wpList_storeC rfl _ _ 32 rfl (w.heap.size + 1) 32 zeroL ((I).cells U).toArray inn_info (by rfl) (by rfl) HC.out.res rfl (Inn.one _ HON.out) ?_))
        refine (begun_f I V _ _ HL.out (HV.out.to HC.out.bel) HB.out).mono ?_
        rintro e wx ⟨rfl, hbx⟩
        have HC := Lib.hid (HC.out.to hbx)
        clear hbx
        go_wp2_with (first
          | (refine wpList_load_row rfl 32 _ rfl w.heap.size (by rfl) 32 (I.cells V).toArray (0, 0) _ HC.out.inn Try.underlying32 rfl inn_info ?_)
          | (refine wpList_load_g (by rfl) 32 _ rfl w.heap.size (by rfl) 32 (I.cells V).toArray (0, 0) _ HC.out.inn Try.underlying32 rfl inn_info ?_)
          | (refine wpList_load_row rfl 32 _ rfl G (by rfl) 32 ((I).cells U).toArray (0, 0) _ HC.out.aft Try.underlying32 rfl inn_info ?_)
          | (refine wpList_storeC rfl _ _ 32 rfl (w.heap.size + 1) 32 zeroL ((I).cells U).toArray inn_info (by rfl) (by rfl) HC.out.res rfl (Inn.one _ HON.out) ?_))
        refine (known_f I V a _ _ HL.out (HV.out.to HC.out.bel) HKA.out).mono ?_
        rintro e wx ⟨rfl, hbx⟩
        have HC := Lib.hid (HC.out.to hbx)
        clear hbx
        go_wp2_with (first
          | (refine wpList_load_row rfl 32 _ rfl w.heap.size (by rfl) 32 (I.cells V).toArray (0, 0) _ HC.out.inn Try.underlying32 rfl inn_info ?_)
          | (refine wpList_load_g (by rfl) 32 _ rfl w.heap.size (by rfl) 32 (I.cells V).toArray (0, 0) _ HC.out.inn Try.underlying32 rfl inn_info ?_)
          | (refine wpList_load_row rfl 32 _ rfl G (by rfl) 32 ((I).cells U).toArray (0, 0) _ HC.out.aft Try.underlying32 rfl inn_info ?_)
          | (refine wpList_storeC rfl _ _ 32 rfl (w.heap.size + 1) 32 zeroL ((I).cells U).toArray inn_info (by rfl) (by rfl) HC.out.res rfl (Inn.one _ HON.out) ?_))
        refine (known_f I V c _ _ HL.out (HV.out.to HC.out.bel) HKC.out).mono ?_
        rintro e wx ⟨rfl, hbx⟩
        have HC := Lib.hid (HC.out.to hbx)
        clear hbx
        go_wp2_with (first
          | (refine wpList_load_row rfl 32 _ rfl w.heap.size (by rfl) 32 (I.cells V).toArray (0, 0) _ HC.out.inn Try.underlying32 rfl inn_info ?_)
          | (refine wpList_load_g (by rfl) 32 _ rfl w.heap.size (by rfl) 32 (I.cells V).toArray (0, 0) _ HC.out.inn Try.underlying32 rfl inn_info ?_)
          | (refine wpList_load_row rfl 32 _ rfl G (by rfl) 32 ((I).cells U).toArray (0, 0) _ HC.out.aft Try.underlying32 rfl inn_info ?_)
          | (refine wpList_storeC rfl _ _ 32 rfl (w.heap.size + 1) 32 zeroL ((I).cells U).toArray inn_info (by rfl) (by rfl) HC.out.res rfl (Inn.one _ HON.out) ?_))
        obtain ⟨f1, f2, f3⟩ := HC.out.fin
        refine ret_cell2 (g := w.heap.size + 1) (xs := (I).cells U) rfl rfl rfl f1 Try.underlying32 rfl inn_info rfl ?_
        exact ⟨U, rfl, f2, f3⟩
      · have HKC := Lib.hid hkc
        by_cases hac : a = c
        · subst hac
          have HS := Lib.hid (show openS I a a = (I, 4) by unfold openS; rw [hb, hka]; simp)
          rw [HS.out]
          clear hb hka hkc
          go_enter Try.func7, Try.ntmps7
          go_wp2_with (first
            | (refine wpList_load_row rfl 32 _ rfl w.heap.size (by rfl) 32 (I.cells V).toArray (0, 0) _ ((Blk.new w _ _).to (cur_new _ _)) Try.underlying32 rfl inn_info ?_))
          obtain ⟨hin, hre, hb0⟩ := entry2 w (I.cells V) [.int .i64 0, .int .i64 0, .int .i64 0, .int .i64 0, .int .i64 0, .int .i64 0, .int .i64 0, .int .i64 0, .int .i64 0, .int .i64 0, .int .i64 0, .int .i64 0, .int .i64 0, .int .i64 0, .slice none 0 0, .int .i64 0, .slice none 0 0, .slice none 0 0, .bool false, .slice none 0 0, .bool false, .int .i64 0, .int .i64 0, .int .i64 0, .slice none 0 0, .int .i64 0, .int .i64 0, .int .u8 0] 32 32
          generalize (w.alloc (Obj.cells (I.cells V).toArray 32)).alloc (Obj.cells [.int .i64 0, .int .i64 0, .int .i64 0, .int .i64 0, .int .i64 0, .int .i64 0, .int .i64 0, .int .i64 0, .int .i64 0, .int .i64 0, .int .i64 0, .int .i64 0, .int .i64 0, .int .i64 0, .slice none 0 0, .int .i64 0, .slice none 0 0, .slice none 0 0, .bool false, .slice none 0 0, .bool false, .int .i64 0, .int .i64 0, .int .i64 0, .slice none 0 0, .int .i64 0, .int .i64 0, .int .u8 0].toArray 32) = w0 at hin hre hb0 ⊢
          refine (own_f I V w0 HL.out (HV.out.to hb0)).mono ?_
          rintro e w1 ⟨U, rfl, ho, hb1⟩
          have HC := Lib.hid (Cs.start hin hre hb0 (by omega) (Nat.le_refl _) (by omega) ho hb1)
          have HON := Lib.hid ho.ones
          clear hin hre hb0 ho hb1
          obtain ⟨w2, hw2⟩ : ∃ y, w1.alloc (.cells (I.cells U).toArray 32) = y := ⟨_, rfl⟩
          rw [hw2] at HC
          have S2 := Lib.hid hw2
          clear hw2
          go_upto_region 2 with (refine wpList_storeNew rfl _ _ 32 rfl _ (I.cells U).toArray inn_info (by rfl) (by rfl) rfl (Inn.one _ HON.out) ?_; rw [S2.out])
          obtain ⟨G, hG⟩ : ∃ y, w1.heap.size = y := ⟨_, rfl⟩
          rw [hG] at HC ⊢
          clear S2 hG
          go_wp2_with (first
            | (refine wpList_load_row rfl 32 _ rfl w.heap.size (by rfl) 32 (I.cells V).toArray (0, 0) _ HC.out.inn Try.underlying32 rfl inn_info ?_)
            | (refine wpList_load_g (by rfl) 32 _ rfl w.heap.size (by rfl) 32 (I.cells V).toArray (0, 0) _ HC.out.inn Try.underlying32 rfl inn_info ?_)
            | (refine wpList_load_row rfl 32 _ rfl G (by rfl) 32 ((I).cells U).toArray (0, 0) _ HC.out.aft Try.underlying32 rfl inn_info ?_)
            | (refine wpList_storeC rfl _ _ 32 rfl (w.heap.size + 1) 32 zeroL ((I).cells U).toArray inn_info (by rfl) (by rfl) HC.out.res rfl (Inn.one _ HON.out) ?_))
          refine (begun_f I V _ _ HL.out (HV.out.to HC.out.bel) HB.out).mono ?_
          rintro e wx ⟨rfl, hbx⟩
          have HC := Lib.hid (HC.out.to hbx)
          clear hbx
          go_wp2_with (first
            | (refine wpList_load_row rfl 32 _ rfl w.heap.size (by rfl) 32 (I.cells V).toArray (0, 0) _ HC.out.inn Try.underlying32 rfl inn_info ?_)
            | (refine wpList_load_g (by rfl) 32 _ rfl w.heap.size (by rfl) 32 (I.cells V).toArray (0, 0) _ HC.out.inn Try.underlying32 rfl inn_info ?_)
            | (refine wpList_load_row rfl 32 _ rfl G (by rfl) 32 ((I).cells U).toArray (0, 0) _ HC.out.aft Try.underlying32 rfl inn_info ?_)
            | (refine wpList_storeC rfl _ _ 32 rfl (w.heap.size + 1) 32 zeroL ((I).cells U).toArray inn_info (by rfl) (by rfl) HC.out.res rfl (Inn.one _ HON.out) ?_))
          refine (known_f I V a _ _ HL.out (HV.out.to HC.out.bel) HKA.out).mono ?_
          rintro e wx ⟨rfl, hbx⟩
          have HC := Lib.hid (HC.out.to hbx)
          clear hbx
          go_wp2_with (first
            | (refine wpList_load_row rfl 32 _ rfl w.heap.size (by rfl) 32 (I.cells V).toArray (0, 0) _ HC.out.inn Try.underlying32 rfl inn_info ?_)
            | (refine wpList_load_g (by rfl) 32 _ rfl w.heap.size (by rfl) 32 (I.cells V).toArray (0, 0) _ HC.out.inn Try.underlying32 rfl inn_info ?_)
            | (refine wpList_load_row rfl 32 _ rfl G (by rfl) 32 ((I).cells U).toArray (0, 0) _ HC.out.aft Try.underlying32 rfl inn_info ?_)
            | (refine wpList_storeC rfl _ _ 32 rfl (w.heap.size + 1) 32 zeroL ((I).cells U).toArray inn_info (by rfl) (by rfl) HC.out.res rfl (Inn.one _ HON.out) ?_))
          refine (known_f I V a _ _ HL.out (HV.out.to HC.out.bel) HKA.out).mono ?_
          rintro e wx ⟨rfl, hbx⟩
          have HC := Lib.hid (HC.out.to hbx)
          clear hbx
          go_wp2_with (first
            | (refine wpList_load_row rfl 32 _ rfl w.heap.size (by rfl) 32 (I.cells V).toArray (0, 0) _ HC.out.inn Try.underlying32 rfl inn_info ?_)
            | (refine wpList_load_g (by rfl) 32 _ rfl w.heap.size (by rfl) 32 (I.cells V).toArray (0, 0) _ HC.out.inn Try.underlying32 rfl inn_info ?_)
            | (refine wpList_load_row rfl 32 _ rfl G (by rfl) 32 ((I).cells U).toArray (0, 0) _ HC.out.aft Try.underlying32 rfl inn_info ?_)
            | (refine wpList_storeC rfl _ _ 32 rfl (w.heap.size + 1) 32 zeroL ((I).cells U).toArray inn_info (by rfl) (by rfl) HC.out.res rfl (Inn.one _ HON.out) ?_))
          obtain ⟨f1, f2, f3⟩ := HC.out.fin
          refine ret_cell2 (g := w.heap.size + 1) (xs := (I).cells U) rfl rfl rfl f1 Try.underlying32 rfl inn_info rfl ?_
          exact ⟨U, rfl, f2, f3⟩
        · obtain ⟨x, hx, hxl⟩ := known_nat hka
          obtain ⟨y, hy, hyl⟩ := known_nat hkc
          have HS := Lib.hid (show openS I a c = (openJ I x y, 0) by unfold openS; rw [hb, hka, hkc]; simp [hac]; rw [show a.toNat - 1 = x by omega, show c.toNat - 1 = y by omega, hx, hy]; rfl)
          rw [HS.out]
          have hac2 : (a == c) = false := by simpa using hac
          have hq := HV.out.b.form
          have hn : I.b.length ≤ 1000 := HL.out.b
          clear hb hka hkc hac hq
          subst hx hy
          go_enter Try.func7, Try.ntmps7
          go_wp2_with (first
            | (refine wpList_load_row rfl 32 _ rfl w.heap.size (by rfl) 32 (I.cells V).toArray (0, 0) _ ((Blk.new w _ _).to (cur_new _ _)) Try.underlying32 rfl inn_info ?_))
          obtain ⟨hin, hre, hb0⟩ := entry2 w (I.cells V) [.int .i64 0, .int .i64 0, .int .i64 0, .int .i64 0, .int .i64 0, .int .i64 0, .int .i64 0, .int .i64 0, .int .i64 0, .int .i64 0, .int .i64 0, .int .i64 0, .int .i64 0, .int .i64 0, .slice none 0 0, .int .i64 0, .slice none 0 0, .slice none 0 0, .bool false, .slice none 0 0, .bool false, .int .i64 0, .int .i64 0, .int .i64 0, .slice none 0 0, .int .i64 0, .int .i64 0, .int .u8 0] 32 32
          generalize (w.alloc (Obj.cells (I.cells V).toArray 32)).alloc (Obj.cells [.int .i64 0, .int .i64 0, .int .i64 0, .int .i64 0, .int .i64 0, .int .i64 0, .int .i64 0, .int .i64 0, .int .i64 0, .int .i64 0, .int .i64 0, .int .i64 0, .int .i64 0, .int .i64 0, .slice none 0 0, .int .i64 0, .slice none 0 0, .slice none 0 0, .bool false, .slice none 0 0, .bool false, .int .i64 0, .int .i64 0, .int .i64 0, .slice none 0 0, .int .i64 0, .int .i64 0, .int .u8 0].toArray 32) = w0 at hin hre hb0 ⊢
          refine (own_f I V w0 HL.out (HV.out.to hb0)).mono ?_
          rintro e w1 ⟨U, rfl, ho, hb1⟩
          have HC := Lib.hid (Cs.start hin hre hb0 (by omega) (Nat.le_refl _) (by omega) ho hb1)
          have HON := Lib.hid ho.ones
          clear hin hre hb0 ho hb1
          obtain ⟨w2, hw2⟩ : ∃ y, w1.alloc (.cells (I.cells U).toArray 32) = y := ⟨_, rfl⟩
          rw [hw2] at HC
          have S2 := Lib.hid hw2
          clear hw2
          go_upto_region 2 with (refine wpList_storeNew rfl _ _ 32 rfl _ (I.cells U).toArray inn_info (by rfl) (by rfl) rfl (Inn.one _ HON.out) ?_; rw [S2.out])
          obtain ⟨G, hG⟩ : ∃ y, w1.heap.size = y := ⟨_, rfl⟩
          rw [hG] at HC ⊢
          clear S2 hG
          go_wp2_with (first
            | (refine wpList_load_row rfl 32 _ rfl w.heap.size (by rfl) 32 (I.cells V).toArray (0, 0) _ HC.out.inn Try.underlying32 rfl inn_info ?_)
            | (refine wpList_load_g (by rfl) 32 _ rfl w.heap.size (by rfl) 32 (I.cells V).toArray (0, 0) _ HC.out.inn Try.underlying32 rfl inn_info ?_)
            | (refine wpList_load_row rfl 32 _ rfl G (by rfl) 32 ((I).cells U).toArray (0, 0) _ HC.out.aft Try.underlying32 rfl inn_info ?_)
            | (refine wpList_storeC rfl _ _ 32 rfl (w.heap.size + 1) 32 zeroL ((I).cells U).toArray inn_info (by rfl) (by rfl) HC.out.res rfl (Inn.one _ HON.out) ?_))
          refine (begun_f I V _ _ HL.out (HV.out.to HC.out.bel) HB.out).mono ?_
          rintro e wx ⟨rfl, hbx⟩
          have HC := Lib.hid (HC.out.to hbx)
          clear hbx
          go_wp2_with (first
            | (refine wpList_load_row rfl 32 _ rfl w.heap.size (by rfl) 32 (I.cells V).toArray (0, 0) _ HC.out.inn Try.underlying32 rfl inn_info ?_)
            | (refine wpList_load_g (by rfl) 32 _ rfl w.heap.size (by rfl) 32 (I.cells V).toArray (0, 0) _ HC.out.inn Try.underlying32 rfl inn_info ?_)
            | (refine wpList_load_row rfl 32 _ rfl G (by rfl) 32 ((I).cells U).toArray (0, 0) _ HC.out.aft Try.underlying32 rfl inn_info ?_)
            | (refine wpList_storeC rfl _ _ 32 rfl (w.heap.size + 1) 32 zeroL ((I).cells U).toArray inn_info (by rfl) (by rfl) HC.out.res rfl (Inn.one _ HON.out) ?_))
          refine (known_f I V (x + 1) _ _ HL.out (HV.out.to HC.out.bel) HKA.out).mono ?_
          rintro e wx ⟨rfl, hbx⟩
          have HC := Lib.hid (HC.out.to hbx)
          clear hbx
          go_wp2_with (first
            | (refine wpList_load_row rfl 32 _ rfl w.heap.size (by rfl) 32 (I.cells V).toArray (0, 0) _ HC.out.inn Try.underlying32 rfl inn_info ?_)
            | (refine wpList_load_g (by rfl) 32 _ rfl w.heap.size (by rfl) 32 (I.cells V).toArray (0, 0) _ HC.out.inn Try.underlying32 rfl inn_info ?_)
            | (refine wpList_load_row rfl 32 _ rfl G (by rfl) 32 ((I).cells U).toArray (0, 0) _ HC.out.aft Try.underlying32 rfl inn_info ?_)
            | (refine wpList_storeC rfl _ _ 32 rfl (w.heap.size + 1) 32 zeroL ((I).cells U).toArray inn_info (by rfl) (by rfl) HC.out.res rfl (Inn.one _ HON.out) ?_))
          refine (known_f I V (y + 1) _ _ HL.out (HV.out.to HC.out.bel) HKC.out).mono ?_
          rintro e wx ⟨rfl, hbx⟩
          have HC := Lib.hid (HC.out.to hbx)
          clear hbx
          go_upto_region 8 with (first
            | (refine wpList_load_row rfl 32 _ rfl w.heap.size (by rfl) 32 (I.cells V).toArray (0, 0) _ HC.out.inn Try.underlying32 rfl inn_info ?_)
            | (refine wpList_load_g (by rfl) 32 _ rfl w.heap.size (by rfl) 32 (I.cells V).toArray (0, 0) _ HC.out.inn Try.underlying32 rfl inn_info ?_)
            | (refine wpList_load_row rfl 32 _ rfl G (by rfl) 32 ((I).cells U).toArray (0, 0) _ HC.out.aft Try.underlying32 rfl inn_info ?_)
            | (refine wpList_storeC rfl _ _ 32 rfl (w.heap.size + 1) 32 zeroL ((I).cells U).toArray inn_info (by rfl) (by rfl) HC.out.res rfl (Inn.one _ HON.out) ?_))
          rename World => w3
          obtain ⟨b, k, hVb, hk, hbb, hbl⟩ := HC.out.own.blk (by omega)
          obtain ⟨n, hnn⟩ : ∃ n, I.b.length = n := ⟨_, rfl⟩
          have hVn := hVb
          rw [hnn] at hVn hk hxl hyl hn
          have c14 := HC.out.lb hVn
          obtain ⟨⟨x1, c1⟩, f1⟩ := HC.out.bat hVb (P := x) (by omega)
          obtain ⟨⟨y1, c2⟩, f2⟩ := HC.out.bat hVb (P := y) (by omega)
          have HC4 := Lib.hid (HC.out.setB hVb x 1)
          have hVb4 : U.b = .slice (some ⟨b, 0, none⟩) (I.b.set x 1).length k := by rw [List.length_set]; exact hVb
          have e14 := HC4.out.lb hVn
          obtain ⟨⟨y2, e2⟩, e3⟩ := HC4.out.bat hVb4 (P := y) (by show y < (I.b.set x 1).length; rw [List.length_set]; omega)
          have HC5 := Lib.hid (HC4.out.setB hVb4 y 1)
          have hxk : x < k := by omega
          have hyk : y < k := by omega
          have HV3 := Lib.hid hVb
          have HV4 := Lib.hid hVb4
          have HNN := Lib.hid hnn
          clear hVb hVb4 hVn hnn
          go_region
          all_goals
            have HC := Lib.hid (HC5.out.to ((Below.refl _ _).drew))
            clear c14 c1 f1 c2 f2 e14 e2 e3 HC4 HC5
            generalize ((w3.setCell ⟨b, x, none⟩ (.int .u8 1)).setCell ⟨b, y, none⟩ (.int .u8 1)).drew = w5 at HC ⊢
            have g1 := HC.out.st
            have g2 := HC.out.fr 12
            have HC6 := Lib.hid (HC.out.setSt (x + 1))
            have g3 := HC6.out.ot
            have g4 := HC6.out.fr 13
            have HC := Lib.hid (HC6.out.setOt (y + 1))
            have HC := Lib.hid (show Cs w _ w.heap.size (w.heap.size + 1) G V I U (openJ I x y) from HC.out)
            clear HC6
            go_wp2_with (first
              | (refine wpList_load_row rfl 32 _ rfl w.heap.size (by rfl) 32 (I.cells V).toArray (0, 0) _ HC.out.inn Try.underlying32 rfl inn_info ?_)
              | (refine wpList_load_g (by rfl) 32 _ rfl w.heap.size (by rfl) 32 (I.cells V).toArray (0, 0) _ HC.out.inn Try.underlying32 rfl inn_info ?_)
              | (refine wpList_load_row rfl 32 _ rfl G (by rfl) 32 ((openJ I x y).cells U).toArray (0, 0) _ HC.out.aft Try.underlying32 rfl inn_info ?_)
              | (refine wpList_storeC rfl _ _ 32 rfl (w.heap.size + 1) 32 zeroL ((openJ I x y).cells U).toArray inn_info (by rfl) (by rfl) HC.out.res rfl (Inn.one _ HON.out) ?_))
            obtain ⟨f1, f2, f3⟩ := HC.out.fin
            refine ret_cell2 (g := w.heap.size + 1) (xs := (openJ I x y).cells U) rfl rfl rfl f1 Try.underlying32 rfl inn_info rfl ?_
            exact ⟨U, rfl, f2, f3⟩
  · have HB := Lib.hid hb
    have HS := Lib.hid (show openS I a c = (I, 1) by unfold openS; rw [hb]; simp)
    rw [HS.out]
    clear hb
    go_enter Try.func7, Try.ntmps7
    go_wp2_with (first
      | (refine wpList_load_row rfl 32 _ rfl w.heap.size (by rfl) 32 (I.cells V).toArray (0, 0) _ ((Blk.new w _ _).to (cur_new _ _)) Try.underlying32 rfl inn_info ?_))
    obtain ⟨hin, hre, hb0⟩ := entry2 w (I.cells V) [.int .i64 0, .int .i64 0, .int .i64 0, .int .i64 0, .int .i64 0, .int .i64 0, .int .i64 0, .int .i64 0, .int .i64 0, .int .i64 0, .int .i64 0, .int .i64 0, .int .i64 0, .int .i64 0, .slice none 0 0, .int .i64 0, .slice none 0 0, .slice none 0 0, .bool false, .slice none 0 0, .bool false, .int .i64 0, .int .i64 0, .int .i64 0, .slice none 0 0, .int .i64 0, .int .i64 0, .int .u8 0] 32 32
    generalize (w.alloc (Obj.cells (I.cells V).toArray 32)).alloc (Obj.cells [.int .i64 0, .int .i64 0, .int .i64 0, .int .i64 0, .int .i64 0, .int .i64 0, .int .i64 0, .int .i64 0, .int .i64 0, .int .i64 0, .int .i64 0, .int .i64 0, .int .i64 0, .int .i64 0, .slice none 0 0, .int .i64 0, .slice none 0 0, .slice none 0 0, .bool false, .slice none 0 0, .bool false, .int .i64 0, .int .i64 0, .int .i64 0, .slice none 0 0, .int .i64 0, .int .i64 0, .int .u8 0].toArray 32) = w0 at hin hre hb0 ⊢
    refine (own_f I V w0 HL.out (HV.out.to hb0)).mono ?_
    rintro e w1 ⟨U, rfl, ho, hb1⟩
    have HC := Lib.hid (Cs.start hin hre hb0 (by omega) (Nat.le_refl _) (by omega) ho hb1)
    have HON := Lib.hid ho.ones
    clear hin hre hb0 ho hb1
    obtain ⟨w2, hw2⟩ : ∃ y, w1.alloc (.cells (I.cells U).toArray 32) = y := ⟨_, rfl⟩
    rw [hw2] at HC
    have S2 := Lib.hid hw2
    clear hw2
    go_upto_region 2 with (refine wpList_storeNew rfl _ _ 32 rfl _ (I.cells U).toArray inn_info (by rfl) (by rfl) rfl (Inn.one _ HON.out) ?_; rw [S2.out])
    obtain ⟨G, hG⟩ : ∃ y, w1.heap.size = y := ⟨_, rfl⟩
    rw [hG] at HC ⊢
    clear S2 hG
    go_wp2_with (first
      | (refine wpList_load_row rfl 32 _ rfl w.heap.size (by rfl) 32 (I.cells V).toArray (0, 0) _ HC.out.inn Try.underlying32 rfl inn_info ?_)
      | (refine wpList_load_g (by rfl) 32 _ rfl w.heap.size (by rfl) 32 (I.cells V).toArray (0, 0) _ HC.out.inn Try.underlying32 rfl inn_info ?_)
      | (refine wpList_load_row rfl 32 _ rfl G (by rfl) 32 ((I).cells U).toArray (0, 0) _ HC.out.aft Try.underlying32 rfl inn_info ?_)
      | (refine wpList_storeC rfl _ _ 32 rfl (w.heap.size + 1) 32 zeroL ((I).cells U).toArray inn_info (by rfl) (by rfl) HC.out.res rfl (Inn.one _ HON.out) ?_))
    refine (begun_f I V _ _ HL.out (HV.out.to HC.out.bel) HB.out).mono ?_
    rintro e wx ⟨rfl, hbx⟩
    have HC := Lib.hid (HC.out.to hbx)
    clear hbx
    go_wp2_with (first
      | (refine wpList_load_row rfl 32 _ rfl w.heap.size (by rfl) 32 (I.cells V).toArray (0, 0) _ HC.out.inn Try.underlying32 rfl inn_info ?_)
      | (refine wpList_load_g (by rfl) 32 _ rfl w.heap.size (by rfl) 32 (I.cells V).toArray (0, 0) _ HC.out.inn Try.underlying32 rfl inn_info ?_)
      | (refine wpList_load_row rfl 32 _ rfl G (by rfl) 32 ((I).cells U).toArray (0, 0) _ HC.out.aft Try.underlying32 rfl inn_info ?_)
      | (refine wpList_storeC rfl _ _ 32 rfl (w.heap.size + 1) 32 zeroL ((I).cells U).toArray inn_info (by rfl) (by rfl) HC.out.res rfl (Inn.one _ HON.out) ?_))
    obtain ⟨f1, f2, f3⟩ := HC.out.fin
    refine ret_cell2 (g := w.heap.size + 1) (xs := (I).cells U) rfl rfl rfl f1 Try.underlying32 rfl inn_info rfl ?_
    exact ⟨U, rfl, f2, f3⟩
end Go.Proofs.Ytjlmlafiojpjmaa
