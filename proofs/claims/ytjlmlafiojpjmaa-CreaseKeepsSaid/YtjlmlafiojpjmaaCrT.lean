/-
  Chapter 12: Retire, with any lists.
-/
import Derived.Test.YtjlmlafiojpjmaaCrL
import Derived.Deep.DeepCutAuto
import Derived.Deep.CutBlock
import Derived.BigGuard
set_option linter.unusedSimpArgs false
set_option linter.unusedVariables false
namespace Go.Proofs.Ytjlmlafiojpjmaa
open Go.RowKit
set_option maxRecDepth 100000
set_option maxHeartbeats 4000000
def retJ (I : Inn) (p : Int) : Inn := if p = I.st then { I with st := 0 } else { I with ot := 0 }
def retireS (I : Inn) (p : Int) (hurt : Bool) : Inn × Int :=
  if knownS I p = false then (I, 3) else if I.st = 0 ∨ I.ot = 0 then (I, 6) else if p ≠ I.st ∧ p ≠ I.ot then (I, 4)
  else if hurt = true ∧ leftS I = [] then (I, 19)
  else if hurt = true then ({ retJ I p with b := I.b.set (p.toNat - 1) 3 }, 0) else (dismissS (retJ I p) p, 0)
def hurtJ (J : Inn) (P : Nat) : Inn := { J with b := J.b.set P 3 }
theorem retire_p (I : Inn) (V : Ls) (p : Int) (hurt : Bool) (w : World) (hl : I.Few) (hV : InnR w V I) :
    Calls Try.prog 26 #[.agg (I.cells V).toArray, .int .i64 p, .bool hurt] w fun e w' => ∃ U, e = .returned (.tuple #[.agg ((retireS I p hurt).1.cells U).toArray, .int .i64 (retireS I p hurt).2]) ∧ InnO w' w.heap.size U ((retireS I p hurt).1) ∧ Below w.heap.size w w' := by
  have HL := Lib.hid hl
  have HV := Lib.hid hV
  clear hl hV
  cases hk : knownS I p
  · have HK := Lib.hid hk
    have HS := Lib.hid (show retireS I p hurt = (I, 3) by unfold retireS; rw [hk]; rfl)
    rw [HS.out]
    clear hk
    go_enter Try.func26, Try.ntmps26
    go_wp2_with (first
      | (refine wpList_load_row rfl 32 _ rfl w.heap.size (by rfl) 32 (I.cells V).toArray (0, 0) _ ((Blk.new w _ _).to (cur_new _ _)) Try.underlying32 rfl inn_info ?_))
    obtain ⟨hin, hre, hb0⟩ := entry2 w (I.cells V) [.int .i64 0, .int .i64 0, .int .i64 0, .int .i64 0, .int .i64 0, .int .i64 0, .int .i64 0, .int .i64 0, .int .i64 0, .int .i64 0, .int .i64 0, .int .i64 0, .int .i64 0, .int .i64 0, .slice none 0 0, .int .i64 0, .slice none 0 0, .slice none 0 0, .bool false, .slice none 0 0, .bool false, .int .i64 0, .int .i64 0, .int .i64 0, .slice none 0 0, .int .i64 0, .int .i64 0, .int .u8 0] 32 32
    generalize (w.alloc (Obj.cells (I.cells V).toArray 32)).alloc (Obj.cells [.int .i64 0, .int .i64 0, .int .i64 0, .int .i64 0, .int .i64 0, .int .i64 0, .int .i64 0, .int .i64 0, .int .i64 0, .int .i64 0, .int .i64 0, .int .i64 0, .int .i64 0, .int .i64 0, .slice none 0 0, .int .i64 0, .slice none 0 0, .slice none 0 0, .bool false, .slice none 0 0, .bool false, .int .i64 0, .int .i64 0, .int .i64 0, .slice none 0 0, .int .i64 0, .int .i64 0, .int .u8 0].toArray 32) = w0 at hin hre hb0 ⊢
    refine (own_f I V w0 HL.out (HV.out.to hb0)).mono ?_
    rintro e w1 ⟨U, rfl, ho, hb1⟩
    have HC := Lib.hid (Cs.start hin hre hb0 (by omega) (Nat.le_refl _) (by omega) ho hb1)
    have HON := Lib.hid ho.ones
    clear hin hre hb0 ho hb1
    obtain ⟨w2, hw2⟩ : ∃ y, w1.alloc (.cells (I.cells U).toArray 32) = y := ⟨_, rfl⟩
    rw [hw2] at HC
    have S2 := Lib.hid hw2
    clear hw2
    go_upto_region 2 with (refine wpList_storeNew rfl _ _ 32 rfl _ (I.cells U).toArray inn_info (by rfl) (by rfl) rfl (Inn.one _ HON.out) ?_; rw [S2.out])
    obtain ⟨G, hG⟩ : ∃ y, w1.heap.size = y := ⟨_, rfl⟩
    rw [hG] at HC ⊢
    clear S2 hG
    go_wp2_with (first
      | (refine wpList_load_row rfl 32 _ rfl w.heap.size (by rfl) 32 (I.cells V).toArray (0, 0) _ HC.out.inn Try.underlying32 rfl inn_info ?_)
      | (refine wpList_load_g (by rfl) 32 _ rfl w.heap.size (by rfl) 32 (I.cells V).toArray (0, 0) _ HC.out.inn Try.underlying32 rfl inn_info ?_)
      | (refine wpList_load_row rfl 32 _ rfl G (by rfl) 32 ((I).cells U).toArray (0, 0) _ HC.out.aft Try.underlying32 rfl inn_info ?_)
      | (refine wpList_storeC rfl _ _ 32 rfl (w.heap.size + 1) 32 zeroL ((I).cells U).toArray inn_info (by rfl) (by rfl) HC.out.res rfl (Inn.one _ HON.out) ?_))
    refine (known_f I V p _ _ HL.out (HV.out.to HC.out.bel) HK.out).mono ?_
    rintro e wx ⟨rfl, hbx⟩
    have HC := Lib.hid (HC.out.to hbx)
    clear hbx
    go_wp2_with (first
      | (refine wpList_load_row rfl 32 _ rfl w.heap.size (by rfl) 32 (I.cells V).toArray (0, 0) _ HC.out.inn Try.underlying32 rfl inn_info ?_)
      | (refine wpList_load_g (by rfl) 32 _ rfl w.heap.size (by rfl) 32 (I.cells V).toArray (0, 0) _ HC.out.inn Try.underlying32 rfl inn_info ?_)
      | (refine wpList_load_row rfl 32 _ rfl G (by rfl) 32 ((I).cells U).toArray (0, 0) _ HC.out.aft Try.underlying32 rfl inn_info ?_)
      | (refine wpList_storeC rfl _ _ 32 rfl (w.heap.size + 1) 32 zeroL ((I).cells U).toArray inn_info (by rfl) (by rfl) HC.out.res rfl (Inn.one _ HON.out) ?_))
    obtain ⟨f1, f2, f3⟩ := HC.out.fin
    refine ret_cell2 (g := w.heap.size + 1) (xs := (I).cells U) rfl rfl rfl f1 Try.underlying32 rfl inn_info rfl ?_
    exact ⟨U, rfl, f2, f3⟩
  · have HK := Lib.hid hk
    by_cases hv : I.st = 0 ∨ I.ot = 0
    · have HS := Lib.hid (show retireS I p hurt = (I, 6) by unfold retireS; rw [hk]; simp only [Bool.true_eq_false, if_false]; rw [if_pos hv])
      rw [HS.out]
      have HVA := Lib.hid hv
      clear hk hv
      go_enter Try.func26, Try.ntmps26
      go_wp2_with (first
        | (refine wpList_load_row rfl 32 _ rfl w.heap.size (by rfl) 32 (I.cells V).toArray (0, 0) _ ((Blk.new w _ _).to (cur_new _ _)) Try.underlying32 rfl inn_info ?_))
      obtain ⟨hin, hre, hb0⟩ := entry2 w (I.cells V) [.int .i64 0, .int .i64 0, .int .i64 0, .int .i64 0, .int .i64 0, .int .i64 0, .int .i64 0, .int .i64 0, .int .i64 0, .int .i64 0, .int .i64 0, .int .i64 0, .int .i64 0, .int .i64 0, .slice none 0 0, .int .i64 0, .slice none 0 0, .slice none 0 0, .bool false, .slice none 0 0, .bool false, .int .i64 0, .int .i64 0, .int .i64 0, .slice none 0 0, .int .i64 0, .int .i64 0, .int .u8 0] 32 32
      generalize (w.alloc (Obj.cells (I.cells V).toArray 32)).alloc (Obj.cells [.int .i64 0, .int .i64 0, .int .i64 0, .int .i64 0, .int .i64 0, .int .i64 0, .int .i64 0, .int .i64 0, .int .i64 0, .int .i64 0, .int .i64 0, .int .i64 0, .int .i64 0, .int .i64 0, .slice none 0 0, .int .i64 0, .slice none 0 0, .slice none 0 0, .bool false, .slice none 0 0, .bool false, .int .i64 0, .int .i64 0, .int .i64 0, .slice none 0 0, .int .i64 0, .int .i64 0, .int .u8 0].toArray 32) = w0 at hin hre hb0 ⊢
      refine (own_f I V w0 HL.out (HV.out.to hb0)).mono ?_
      rintro e w1 ⟨U, rfl, ho, hb1⟩
      have HC := Lib.hid (Cs.start hin hre hb0 (by omega) (Nat.le_refl _) (by omega) ho hb1)
      have HON := Lib.hid ho.ones
      clear hin hre hb0 ho hb1
      obtain ⟨w2, hw2⟩ : ∃ y, w1.alloc (.cells (I.cells U).toArray 32) = y := ⟨_, rfl⟩
      rw [hw2] at HC
      have S2 := Lib.hid hw2
      clear hw2
      go_upto_region 2 with (refine wpList_storeNew rfl _ _ 32 rfl _ (I.cells U).toArray inn_info (by rfl) (by rfl) rfl (Inn.one _ HON.out) ?_; rw [S2.out])
      obtain ⟨G, hG⟩ : ∃ y, w1.heap.size = y := ⟨_, rfl⟩
      rw [hG] at HC ⊢
      clear S2 hG
      go_wp2_with (first
        | (refine wpList_load_row rfl 32 _ rfl w.heap.size (by rfl) 32 (I.cells V).toArray (0, 0) _ HC.out.inn Try.underlying32 rfl inn_info ?_)
        | (refine wpList_load_g (by rfl) 32 _ rfl w.heap.size (by rfl) 32 (I.cells V).toArray (0, 0) _ HC.out.inn Try.underlying32 rfl inn_info ?_)
        | (refine wpList_load_row rfl 32 _ rfl G (by rfl) 32 ((I).cells U).toArray (0, 0) _ HC.out.aft Try.underlying32 rfl inn_info ?_)
        | (refine wpList_storeC rfl _ _ 32 rfl (w.heap.size + 1) 32 zeroL ((I).cells U).toArray inn_info (by rfl) (by rfl) HC.out.res rfl (Inn.one _ HON.out) ?_))
      refine (known_f I V p _ _ HL.out (HV.out.to HC.out.bel) HK.out).mono ?_
      rintro e wx ⟨rfl, hbx⟩
      have HC := Lib.hid (HC.out.to hbx)
      clear hbx
      have c12 := HC.out.ist
      have c13 := HC.out.iot
      have hva := HVA.out
      obtain ⟨s0, hs0⟩ : ∃ y, I.st = y := ⟨_, rfl⟩
      obtain ⟨o0, ho0⟩ : ∃ y, I.ot = y := ⟨_, rfl⟩
      rw [hs0] at c12 hva
      rw [ho0] at c13 hva
      have HS0 := Lib.hid hs0
      have HO0 := Lib.hid ho0
      clear hs0 ho0
      cases g0 : (s0 == 0)
      · have g1 : (o0 == 0) = true := by rcases hva with h | h <;> simp_all
        clear hva
        go_wp2_with (first
          | (refine wpList_load_row rfl 32 _ rfl w.heap.size (by rfl) 32 (I.cells V).toArray (0, 0) _ HC.out.inn Try.underlying32 rfl inn_info ?_)
          | (refine wpList_load_g (by rfl) 32 _ rfl w.heap.size (by rfl) 32 (I.cells V).toArray (0, 0) _ HC.out.inn Try.underlying32 rfl inn_info ?_)
          | (refine wpList_load_row rfl 32 _ rfl G (by rfl) 32 ((I).cells U).toArray (0, 0) _ HC.out.aft Try.underlying32 rfl inn_info ?_)
          | (refine wpList_storeC rfl _ _ 32 rfl (w.heap.size + 1) 32 zeroL ((I).cells U).toArray inn_info (by rfl) (by rfl) HC.out.res rfl (Inn.one _ HON.out) ?_))
        obtain ⟨f1, f2, f3⟩ := HC.out.fin
        refine ret_cell2 (g := w.heap.size + 1) (xs := (I).cells U) rfl rfl rfl f1 Try.underlying32 rfl inn_info rfl ?_
        exact ⟨U, rfl, f2, f3⟩
      · clear hva
        go_wp2_with (first
          | (refine wpList_load_row rfl 32 _ rfl w.heap.size (by rfl) 32 (I.cells V).toArray (0, 0) _ HC.out.inn Try.underlying32 rfl inn_info ?_)
          | (refine wpList_load_g (by rfl) 32 _ rfl w.heap.size (by rfl) 32 (I.cells V).toArray (0, 0) _ HC.out.inn Try.underlying32 rfl inn_info ?_)
          | (refine wpList_load_row rfl 32 _ rfl G (by rfl) 32 ((I).cells U).toArray (0, 0) _ HC.out.aft Try.underlying32 rfl inn_info ?_)
          | (refine wpList_storeC rfl _ _ 32 rfl (w.heap.size + 1) 32 zeroL ((I).cells U).toArray inn_info (by rfl) (by rfl) HC.out.res rfl (Inn.one _ HON.out) ?_))
        obtain ⟨f1, f2, f3⟩ := HC.out.fin
        refine ret_cell2 (g := w.heap.size + 1) (xs := (I).cells U) rfl rfl rfl f1 Try.underlying32 rfl inn_info rfl ?_
        exact ⟨U, rfl, f2, f3⟩
    · rw [not_or] at hv
      obtain ⟨hv1, hv2⟩ := hv
      have g0 : (I.st == 0) = false := by simpa using hv1
      have g1 : (I.ot == 0) = false := by simpa using hv2
      by_cases hne : p ≠ I.st ∧ p ≠ I.ot
      · have HS := Lib.hid (show retireS I p hurt = (I, 4) by unfold retireS; rw [hk]; simp only [Bool.true_eq_false, if_false]; rw [if_neg (by rw [not_or]; exact ⟨hv1, hv2⟩), if_pos hne])
        rw [HS.out]
        have g2 : (p != I.st) = true := by simpa using hne.1
        have g3 : (p != I.ot) = true := by simpa using hne.2
        clear hk hv1 hv2 hne
        go_enter Try.func26, Try.ntmps26
        go_wp2_with (first
          | (refine wpList_load_row rfl 32 _ rfl w.heap.size (by rfl) 32 (I.cells V).toArray (0, 0) _ ((Blk.new w _ _).to (cur_new _ _)) Try.underlying32 rfl inn_info ?_))
        obtain ⟨hin, hre, hb0⟩ := entry2 w (I.cells V) [.int .i64 0, .int .i64 0, .int .i64 0, .int .i64 0, .int .i64 0, .int .i64 0, .int .i64 0, .int .i64 0, .int .i64 0, .int .i64 0, .int .i64 0, .int .i64 0, .int .i64 0, .int .i64 0, .slice none 0 0, .int .i64 0, .slice none 0 0, .slice none 0 0, .bool false, .slice none 0 0, .bool false, .int .i64 0, .int .i64 0, .int .i64 0, .slice none 0 0, .int .i64 0, .int .i64 0, .int .u8 0] 32 32
        generalize (w.alloc (Obj.cells (I.cells V).toArray 32)).alloc (Obj.cells [.int .i64 0, .int .i64 0, .int .i64 0, .int .i64 0, .int .i64 0, .int .i64 0, .int .i64 0, .int .i64 0, .int .i64 0, .int .i64 0, .int .i64 0, .int .i64 0, .int .i64 0, .int .i64 0, .slice none 0 0, .int .i64 0, .slice none 0 0, .slice none 0 0, .bool false, .slice none 0 0, .bool false, .int .i64 0, .int .i64 0, .int .i64 0, .slice none 0 0, .int .i64 0, .int .i64 0, .int .u8 0].toArray 32) = w0 at hin hre hb0 ⊢
        refine (own_f I V w0 HL.out (HV.out.to hb0)).mono ?_
        rintro e w1 ⟨U, rfl, ho, hb1⟩
        have HC := Lib.hid (Cs.start hin hre hb0 (by omega) (Nat.le_refl _) (by omega) ho hb1)
        have HON := Lib.hid ho.ones
        clear hin hre hb0 ho hb1
        obtain ⟨w2, hw2⟩ : ∃ y, w1.alloc (.cells (I.cells U).toArray 32) = y := ⟨_, rfl⟩
        rw [hw2] at HC
        have S2 := Lib.hid hw2
        clear hw2
        go_upto_region 2 with (refine wpList_storeNew rfl _ _ 32 rfl _ (I.cells U).toArray inn_info (by rfl) (by rfl) rfl (Inn.one _ HON.out) ?_; rw [S2.out])
        obtain ⟨G, hG⟩ : ∃ y, w1.heap.size = y := ⟨_, rfl⟩
        rw [hG] at HC ⊢
        clear S2 hG
        go_wp2_with (first
          | (refine wpList_load_row rfl 32 _ rfl w.heap.size (by rfl) 32 (I.cells V).toArray (0, 0) _ HC.out.inn Try.underlying32 rfl inn_info ?_)
          | (refine wpList_load_g (by rfl) 32 _ rfl w.heap.size (by rfl) 32 (I.cells V).toArray (0, 0) _ HC.out.inn Try.underlying32 rfl inn_info ?_)
          | (refine wpList_load_row rfl 32 _ rfl G (by rfl) 32 ((I).cells U).toArray (0, 0) _ HC.out.aft Try.underlying32 rfl inn_info ?_)
          | (refine wpList_storeC rfl _ _ 32 rfl (w.heap.size + 1) 32 zeroL ((I).cells U).toArray inn_info (by rfl) (by rfl) HC.out.res rfl (Inn.one _ HON.out) ?_))
        refine (known_f I V p _ _ HL.out (HV.out.to HC.out.bel) HK.out).mono ?_
        rintro e wx ⟨rfl, hbx⟩
        have HC := Lib.hid (HC.out.to hbx)
        clear hbx
        have c12 := HC.out.ist
        have c13 := HC.out.iot
        go_wp2_with (first
          | (refine wpList_load_row rfl 32 _ rfl w.heap.size (by rfl) 32 (I.cells V).toArray (0, 0) _ HC.out.inn Try.underlying32 rfl inn_info ?_)
          | (refine wpList_load_g (by rfl) 32 _ rfl w.heap.size (by rfl) 32 (I.cells V).toArray (0, 0) _ HC.out.inn Try.underlying32 rfl inn_info ?_)
          | (refine wpList_load_row rfl 32 _ rfl G (by rfl) 32 ((I).cells U).toArray (0, 0) _ HC.out.aft Try.underlying32 rfl inn_info ?_)
          | (refine wpList_storeC rfl _ _ 32 rfl (w.heap.size + 1) 32 zeroL ((I).cells U).toArray inn_info (by rfl) (by rfl) HC.out.res rfl (Inn.one _ HON.out) ?_))
        obtain ⟨f1, f2, f3⟩ := HC.out.fin
        refine ret_cell2 (g := w.heap.size + 1) (xs := (I).cells U) rfl rfl rfl f1 Try.underlying32 rfl inn_info rfl ?_
        exact ⟨U, rfl, f2, f3⟩
      · have HNE := Lib.hid (show (p != I.st) = true → (p != I.ot) = false by intro h; simp at h ⊢; exact Classical.byContradiction fun h2 => hne ⟨h, h2⟩)
        have HNN := Lib.hid hne
        by_cases hr : hurt = true ∧ leftS I = []
        · have HS := Lib.hid (show retireS I p hurt = (I, 19) by unfold retireS; rw [hk]; simp only [Bool.true_eq_false, if_false]; rw [if_neg (by rw [not_or]; exact ⟨hv1, hv2⟩), if_neg hne, if_pos hr])
          rw [HS.out]
          obtain ⟨hr1, hr2⟩ := hr
          subst hr1
          have HLE := Lib.hid hr2
          clear hk hv1 hv2 hne hr2
          cases g2 : (p != I.st)
          · go_enter Try.func26, Try.ntmps26
            go_wp2_with (first
              | (refine wpList_load_row rfl 32 _ rfl w.heap.size (by rfl) 32 (I.cells V).toArray (0, 0) _ ((Blk.new w _ _).to (cur_new _ _)) Try.underlying32 rfl inn_info ?_))
            obtain ⟨hin, hre, hb0⟩ := entry2 w (I.cells V) [.int .i64 0, .int .i64 0, .int .i64 0, .int .i64 0, .int .i64 0, .int .i64 0, .int .i64 0, .int .i64 0, .int .i64 0, .int .i64 0, .int .i64 0, .int .i64 0, .int .i64 0, .int .i64 0, .slice none 0 0, .int .i64 0, .slice none 0 0, .slice none 0 0, .bool false, .slice none 0 0, .bool false, .int .i64 0, .int .i64 0, .int .i64 0, .slice none 0 0, .int .i64 0, .int .i64 0, .int .u8 0] 32 32
            generalize (w.alloc (Obj.cells (I.cells V).toArray 32)).alloc (Obj.cells [.int .i64 0, .int .i64 0, .int .i64 0, .int .i64 0, .int .i64 0, .int .i64 0, .int .i64 0, .int .i64 0, .int .i64 0, .int .i64 0, .int .i64 0, .int .i64 0, .int .i64 0, .int .i64 0, .slice none 0 0, .int .i64 0, .slice none 0 0, .slice none 0 0, .bool false, .slice none 0 0, .bool false, .int .i64 0, .int .i64 0, .int .i64 0, .slice none 0 0, .int .i64 0, .int .i64 0, .int .u8 0].toArray 32) = w0 at hin hre hb0 ⊢
            refine (own_f I V w0 HL.out (HV.out.to hb0)).mono ?_
            rintro e w1 ⟨U, rfl, ho, hb1⟩
            have HC := Lib.hid (Cs.start hin hre hb0 (by omega) (Nat.le_refl _) (by omega) ho hb1)
            have HON := Lib.hid ho.ones
            clear hin hre hb0 ho hb1
            obtain ⟨w2, hw2⟩ : ∃ y, w1.alloc (.cells (I.cells U).toArray 32) = y := ⟨_, rfl⟩
            rw [hw2] at HC
            have S2 := Lib.hid hw2
            clear hw2
            go_upto_region 2 with (refine wpList_storeNew rfl _ _ 32 rfl _ (I.cells U).toArray inn_info (by rfl) (by rfl) rfl (Inn.one _ HON.out) ?_; rw [S2.out])
            obtain ⟨G, hG⟩ : ∃ y, w1.heap.size = y := ⟨_, rfl⟩
            rw [hG] at HC ⊢
            clear S2 hG
            go_wp2_with (first
              | (refine wpList_load_row rfl 32 _ rfl w.heap.size (by rfl) 32 (I.cells V).toArray (0, 0) _ HC.out.inn Try.underlying32 rfl inn_info ?_)
              | (refine wpList_load_g (by rfl) 32 _ rfl w.heap.size (by rfl) 32 (I.cells V).toArray (0, 0) _ HC.out.inn Try.underlying32 rfl inn_info ?_)
              | (refine wpList_load_row rfl 32 _ rfl G (by rfl) 32 ((I).cells U).toArray (0, 0) _ HC.out.aft Try.underlying32 rfl inn_info ?_)
              | (refine wpList_storeC rfl _ _ 32 rfl (w.heap.size + 1) 32 zeroL ((I).cells U).toArray inn_info (by rfl) (by rfl) HC.out.res rfl (Inn.one _ HON.out) ?_))
            refine (known_f I V p _ _ HL.out (HV.out.to HC.out.bel) HK.out).mono ?_
            rintro e wx ⟨rfl, hbx⟩
            have HC := Lib.hid (HC.out.to hbx)
            clear hbx
            have c12 := HC.out.ist
            have c13 := HC.out.iot
            go_wp2_with (first
              | (refine wpList_load_row rfl 32 _ rfl w.heap.size (by rfl) 32 (I.cells V).toArray (0, 0) _ HC.out.inn Try.underlying32 rfl inn_info ?_)
              | (refine wpList_load_g (by rfl) 32 _ rfl w.heap.size (by rfl) 32 (I.cells V).toArray (0, 0) _ HC.out.inn Try.underlying32 rfl inn_info ?_)
              | (refine wpList_load_row rfl 32 _ rfl G (by rfl) 32 ((I).cells U).toArray (0, 0) _ HC.out.aft Try.underlying32 rfl inn_info ?_)
              | (refine wpList_storeC rfl _ _ 32 rfl (w.heap.size + 1) 32 zeroL ((I).cells U).toArray inn_info (by rfl) (by rfl) HC.out.res rfl (Inn.one _ HON.out) ?_))
            refine (left_p I V _ HL.out (HV.out.to HC.out.bel)).mono ?_
            rintro e wx ⟨LA, lc, rfl, _, hbx⟩
            have HC := Lib.hid (HC.out.to hbx)
            clear hbx
            rw [HLE.out]
            go_wp2_with (first
              | (refine wpList_load_row rfl 32 _ rfl w.heap.size (by rfl) 32 (I.cells V).toArray (0, 0) _ HC.out.inn Try.underlying32 rfl inn_info ?_)
              | (refine wpList_load_g (by rfl) 32 _ rfl w.heap.size (by rfl) 32 (I.cells V).toArray (0, 0) _ HC.out.inn Try.underlying32 rfl inn_info ?_)
              | (refine wpList_load_row rfl 32 _ rfl G (by rfl) 32 ((I).cells U).toArray (0, 0) _ HC.out.aft Try.underlying32 rfl inn_info ?_)
              | (refine wpList_storeC rfl _ _ 32 rfl (w.heap.size + 1) 32 zeroL ((I).cells U).toArray inn_info (by rfl) (by rfl) HC.out.res rfl (Inn.one _ HON.out) ?_))
            obtain ⟨f1, f2, f3⟩ := HC.out.fin
            refine ret_cell2 (g := w.heap.size + 1) (xs := (I).cells U) rfl rfl rfl f1 Try.underlying32 rfl inn_info rfl ?_
            exact ⟨U, rfl, f2, f3⟩
          · have g3 := HNE.out g2
            go_enter Try.func26, Try.ntmps26
            go_wp2_with (first
              | (refine wpList_load_row rfl 32 _ rfl w.heap.size (by rfl) 32 (I.cells V).toArray (0, 0) _ ((Blk.new w _ _).to (cur_new _ _)) Try.underlying32 rfl inn_info ?_))
            obtain ⟨hin, hre, hb0⟩ := entry2 w (I.cells V) [.int .i64 0, .int .i64 0, .int .i64 0, .int .i64 0, .int .i64 0, .int .i64 0, .int .i64 0, .int .i64 0, .int .i64 0, .int .i64 0, .int .i64 0, .int .i64 0, .int .i64 0, .int .i64 0, .slice none 0 0, .int .i64 0, .slice none 0 0, .slice none 0 0, .bool false, .slice none 0 0, .bool false, .int .i64 0, .int .i64 0, .int .i64 0, .slice none 0 0, .int .i64 0, .int .i64 0, .int .u8 0] 32 32
            generalize (w.alloc (Obj.cells (I.cells V).toArray 32)).alloc (Obj.cells [.int .i64 0, .int .i64 0, .int .i64 0, .int .i64 0, .int .i64 0, .int .i64 0, .int .i64 0, .int .i64 0, .int .i64 0, .int .i64 0, .int .i64 0, .int .i64 0, .int .i64 0, .int .i64 0, .slice none 0 0, .int .i64 0, .slice none 0 0, .slice none 0 0, .bool false, .slice none 0 0, .bool false, .int .i64 0, .int .i64 0, .int .i64 0, .slice none 0 0, .int .i64 0, .int .i64 0, .int .u8 0].toArray 32) = w0 at hin hre hb0 ⊢
            refine (own_f I V w0 HL.out (HV.out.to hb0)).mono ?_
            rintro e w1 ⟨U, rfl, ho, hb1⟩
            have HC := Lib.hid (Cs.start hin hre hb0 (by omega) (Nat.le_refl _) (by omega) ho hb1)
            have HON := Lib.hid ho.ones
            clear hin hre hb0 ho hb1
            obtain ⟨w2, hw2⟩ : ∃ y, w1.alloc (.cells (I.cells U).toArray 32) = y := ⟨_, rfl⟩
            rw [hw2] at HC
            have S2 := Lib.hid hw2
            clear hw2
            go_upto_region 2 with (refine wpList_storeNew rfl _ _ 32 rfl _ (I.cells U).toArray inn_info (by rfl) (by rfl) rfl (Inn.one _ HON.out) ?_; rw [S2.out])
            obtain ⟨G, hG⟩ : ∃ y, w1.heap.size = y := ⟨_, rfl⟩
            rw [hG] at HC ⊢
            clear S2 hG
            go_wp2_with (first
              | (refine wpList_load_row rfl 32 _ rfl w.heap.size (by rfl) 32 (I.cells V).toArray (0, 0) _ HC.out.inn Try.underlying32 rfl inn_info ?_)
              | (refine wpList_load_g (by rfl) 32 _ rfl w.heap.size (by rfl) 32 (I.cells V).toArray (0, 0) _ HC.out.inn Try.underlying32 rfl inn_info ?_)
              | (refine wpList_load_row rfl 32 _ rfl G (by rfl) 32 ((I).cells U).toArray (0, 0) _ HC.out.aft Try.underlying32 rfl inn_info ?_)
              | (refine wpList_storeC rfl _ _ 32 rfl (w.heap.size + 1) 32 zeroL ((I).cells U).toArray inn_info (by rfl) (by rfl) HC.out.res rfl (Inn.one _ HON.out) ?_))
            refine (known_f I V p _ _ HL.out (HV.out.to HC.out.bel) HK.out).mono ?_
            rintro e wx ⟨rfl, hbx⟩
            have HC := Lib.hid (HC.out.to hbx)
            clear hbx
            have c12 := HC.out.ist
            have c13 := HC.out.iot
            go_wp2_with (first
              | (refine wpList_load_row rfl 32 _ rfl w.heap.size (by rfl) 32 (I.cells V).toArray (0, 0) _ HC.out.inn Try.underlying32 rfl inn_info ?_)
              | (refine wpList_load_g (by rfl) 32 _ rfl w.heap.size (by rfl) 32 (I.cells V).toArray (0, 0) _ HC.out.inn Try.underlying32 rfl inn_info ?_)
              | (refine wpList_load_row rfl 32 _ rfl G (by rfl) 32 ((I).cells U).toArray (0, 0) _ HC.out.aft Try.underlying32 rfl inn_info ?_)
              | (refine wpList_storeC rfl _ _ 32 rfl (w.heap.size + 1) 32 zeroL ((I).cells U).toArray inn_info (by rfl) (by rfl) HC.out.res rfl (Inn.one _ HON.out) ?_))
            refine (left_p I V _ HL.out (HV.out.to HC.out.bel)).mono ?_
            rintro e wx ⟨LA, lc, rfl, _, hbx⟩
            have HC := Lib.hid (HC.out.to hbx)
            clear hbx
            rw [HLE.out]
            go_wp2_with (first
              | (refine wpList_load_row rfl 32 _ rfl w.heap.size (by rfl) 32 (I.cells V).toArray (0, 0) _ HC.out.inn Try.underlying32 rfl inn_info ?_)
              | (refine wpList_load_g (by rfl) 32 _ rfl w.heap.size (by rfl) 32 (I.cells V).toArray (0, 0) _ HC.out.inn Try.underlying32 rfl inn_info ?_)
              | (refine wpList_load_row rfl 32 _ rfl G (by rfl) 32 ((I).cells U).toArray (0, 0) _ HC.out.aft Try.underlying32 rfl inn_info ?_)
              | (refine wpList_storeC rfl _ _ 32 rfl (w.heap.size + 1) 32 zeroL ((I).cells U).toArray inn_info (by rfl) (by rfl) HC.out.res rfl (Inn.one _ HON.out) ?_))
            obtain ⟨f1, f2, f3⟩ := HC.out.fin
            refine ret_cell2 (g := w.heap.size + 1) (xs := (I).cells U) rfl rfl rfl f1 Try.underlying32 rfl inn_info rfl ?_
            exact ⟨U, rfl, f2, f3⟩
        · have HR := Lib.hid hr
          have HFE := Lib.hid (show hurt = true → ((leftS I).length == 0) = false by intro h; have : leftS I ≠ [] := fun e => hr ⟨h, e⟩; simpa using this)
          obtain ⟨P, hp, hPl⟩ := known_nat hk
          have hP1 : p.toNat - 1 = P := by omega
          have hn : I.b.length ≤ 1000 := HL.out.b
          have HS := Lib.hid (show retireS I p hurt = (if hurt = true then (hurtJ (retJ I p) P, 0) else (dismissS (retJ I p) p, 0)) by unfold retireS; rw [hk]; simp only [Bool.true_eq_false, if_false]; rw [if_neg (by rw [not_or]; exact ⟨hv1, hv2⟩), if_neg hne, if_neg hr, hP1]; unfold hurtJ retJ; split <;> split <;> rfl)
          rw [HS.out]
          clear hk hv1 hv2 hne hr hP1
          subst hp
          cases hurt
          · show Calls Try.prog 26 #[.agg (I.cells V).toArray, .int .i64 (P + 1), .bool false] w fun e w' => ∃ U, e = .returned (.tuple #[.agg ((dismissS (retJ I (P + 1)) (P + 1)).cells U).toArray, .int .i64 0]) ∧ InnO w' w.heap.size U (dismissS (retJ I (P + 1)) (P + 1)) ∧ Below w.heap.size w w'
            cases g2 : ((P : Int) + 1 != I.st)
            · have HE := Lib.hid (show ((P : Int) + 1) = I.st by simpa using g2)
              have g4 : ((P : Int) + 1 == I.st) = true := by simpa using g2
              go_enter Try.func26, Try.ntmps26
              go_wp2_with (first
                | (refine wpList_load_row rfl 32 _ rfl w.heap.size (by rfl) 32 (I.cells V).toArray (0, 0) _ ((Blk.new w _ _).to (cur_new _ _)) Try.underlying32 rfl inn_info ?_))
              obtain ⟨hin, hre, hb0⟩ := entry2 w (I.cells V) [.int .i64 0, .int .i64 0, .int .i64 0, .int .i64 0, .int .i64 0, .int .i64 0, .int .i64 0, .int .i64 0, .int .i64 0, .int .i64 0, .int .i64 0, .int .i64 0, .int .i64 0, .int .i64 0, .slice none 0 0, .int .i64 0, .slice none 0 0, .slice none 0 0, .bool false, .slice none 0 0, .bool false, .int .i64 0, .int .i64 0, .int .i64 0, .slice none 0 0, .int .i64 0, .int .i64 0, .int .u8 0] 32 32
              generalize (w.alloc (Obj.cells (I.cells V).toArray 32)).alloc (Obj.cells [.int .i64 0, .int .i64 0, .int .i64 0, .int .i64 0, .int .i64 0, .int .i64 0, .int .i64 0, .int .i64 0, .int .i64 0, .int .i64 0, .int .i64 0, .int .i64 0, .int .i64 0, .int .i64 0, .slice none 0 0, .int .i64 0, .slice none 0 0, .slice none 0 0, .bool false, .slice none 0 0, .bool false, .int .i64 0, .int .i64 0, .int .i64 0, .slice none 0 0, .int .i64 0, .int .i64 0, .int .u8 0].toArray 32) = w0 at hin hre hb0 ⊢
              refine (own_f I V w0 HL.out (HV.out.to hb0)).mono ?_
              rintro e w1 ⟨U, rfl, ho, hb1⟩
              have HC := Lib.hid (Cs.start hin hre hb0 (by omega) (Nat.le_refl _) (by omega) ho hb1)
              have HON := Lib.hid ho.ones
              clear hin hre hb0 ho hb1
              obtain ⟨w2, hw2⟩ : ∃ y, w1.alloc (.cells (I.cells U).toArray 32) = y := ⟨_, rfl⟩
              rw [hw2] at HC
              have S2 := Lib.hid hw2
              clear hw2
              go_upto_region 2 with (refine wpList_storeNew rfl _ _ 32 rfl _ (I.cells U).toArray inn_info (by rfl) (by rfl) rfl (Inn.one _ HON.out) ?_; rw [S2.out])
              obtain ⟨G, hG⟩ : ∃ y, w1.heap.size = y := ⟨_, rfl⟩
              rw [hG] at HC ⊢
              clear S2 hG
              go_wp2_with (first
                | (refine wpList_load_row rfl 32 _ rfl w.heap.size (by rfl) 32 (I.cells V).toArray (0, 0) _ HC.out.inn Try.underlying32 rfl inn_info ?_)
                | (refine wpList_load_g (by rfl) 32 _ rfl w.heap.size (by rfl) 32 (I.cells V).toArray (0, 0) _ HC.out.inn Try.underlying32 rfl inn_info ?_)
                | (refine wpList_load_row rfl 32 _ rfl G (by rfl) 32 ((I).cells U).toArray (0, 0) _ HC.out.aft Try.underlying32 rfl inn_info ?_)
                | (refine wpList_storeC rfl _ _ 32 rfl (w.heap.size + 1) 32 zeroL ((I).cells U).toArray inn_info (by rfl) (by rfl) HC.out.res rfl (Inn.one _ HON.out) ?_))
              refine (known_f I V (P + 1) _ _ HL.out (HV.out.to HC.out.bel) HK.out).mono ?_
              rintro e wx ⟨rfl, hbx⟩
              have HC := Lib.hid (HC.out.to hbx)
              clear hbx
              have c12 := HC.out.ist
              have c13 := HC.out.iot
              have k12 := HC.out.ist
              have k13 := HC.out.iot
              have m1 := HC.out.st
              have m2 := HC.out.fr 12
              have HJ := Lib.hid (HC.out.setSt 0)
              have HJ := Lib.hid (show Cs w _ w.heap.size (w.heap.size + 1) G V I U (retJ I (P + 1)) from by have h := HJ.out; unfold retJ; rw [if_pos HE.out]; exact h)
              have HC := Lib.hid HJ.out
              clear HJ
              have HLJ := Lib.hid (show (retJ I (P + 1)).Few by unfold retJ; split <;> exact ⟨HL.out.b, HL.out.bo, HL.out.be, HL.out.bd, HL.out.sb⟩)
              go_wp2_with (fail)
              refine (dismiss_f (retJ I (P + 1)) U (P + 1) G w.heap.size _ HLJ.out HC.out.aft HC.out.own HC.out.awa).mono ?_
              rintro e wd ⟨rfl, hd1, hd2, hd3⟩
              have HC := Lib.hid (HC.out.dis hd1 hd2 hd3)
              clear hd1 hd2 hd3
              go_wp2_with (first
                | (refine wpList_load_row rfl 32 _ rfl w.heap.size (by rfl) 32 (I.cells V).toArray (0, 0) _ HC.out.inn Try.underlying32 rfl inn_info ?_)
                | (refine wpList_load_g (by rfl) 32 _ rfl w.heap.size (by rfl) 32 (I.cells V).toArray (0, 0) _ HC.out.inn Try.underlying32 rfl inn_info ?_)
                | (refine wpList_load_row rfl 32 _ rfl G (by rfl) 32 ((dismissS (retJ I (P + 1)) (P + 1)).cells U).toArray (0, 0) _ HC.out.aft Try.underlying32 rfl inn_info ?_)
                | (refine wpList_storeC rfl _ _ 32 rfl (w.heap.size + 1) 32 zeroL ((dismissS (retJ I (P + 1)) (P + 1)).cells U).toArray inn_info (by rfl) (by rfl) HC.out.res rfl (Inn.one _ HON.out) ?_))
              obtain ⟨f1, f2, f3⟩ := HC.out.fin
              refine ret_cell2 (g := w.heap.size + 1) (xs := (dismissS (retJ I (P + 1)) (P + 1)).cells U) rfl rfl rfl f1 Try.underlying32 rfl inn_info rfl ?_
              exact ⟨U, rfl, f2, f3⟩
            · have g3 := HNE.out g2
              have HE := Lib.hid (show ¬ ((P : Int) + 1) = I.st by simpa using g2)
              have g4 : ((P : Int) + 1 == I.st) = false := by simpa using g2
              go_enter Try.func26, Try.ntmps26
              go_wp2_with (first
                | (refine wpList_load_row rfl 32 _ rfl w.heap.size (by rfl) 32 (I.cells V).toArray (0, 0) _ ((Blk.new w _ _).to (cur_new _ _)) Try.underlying32 rfl inn_info ?_))
              obtain ⟨hin, hre, hb0⟩ := entry2 w (I.cells V) [.int .i64 0, .int .i64 0, .int .i64 0, .int .i64 0, .int .i64 0, .int .i64 0, .int .i64 0, .int .i64 0, .int .i64 0, .int .i64 0, .int .i64 0, .int .i64 0, .int .i64 0, .int .i64 0, .slice none 0 0, .int .i64 0, .slice none 0 0, .slice none 0 0, .bool false, .slice none 0 0, .bool false, .int .i64 0, .int .i64 0, .int .i64 0, .slice none 0 0, .int .i64 0, .int .i64 0, .int .u8 0] 32 32
              generalize (w.alloc (Obj.cells (I.cells V).toArray 32)).alloc (Obj.cells [.int .i64 0, .int .i64 0, .int .i64 0, .int .i64 0, .int .i64 0, .int .i64 0, .int .i64 0, .int .i64 0, .int .i64 0, .int .i64 0, .int .i64 0, .int .i64 0, .int .i64 0, .int .i64 0, .slice none 0 0, .int .i64 0, .slice none 0 0, .slice none 0 0, .bool false, .slice none 0 0, .bool false, .int .i64 0, .int .i64 0, .int .i64 0, .slice none 0 0, .int .i64 0, .int .i64 0, .int .u8 0].toArray 32) = w0 at hin hre hb0 ⊢
              refine (own_f I V w0 HL.out (HV.out.to hb0)).mono ?_
              rintro e w1 ⟨U, rfl, ho, hb1⟩
              have HC := Lib.hid (Cs.start hin hre hb0 (by omega) (Nat.le_refl _) (by omega) ho hb1)
              have HON := Lib.hid ho.ones
              clear hin hre hb0 ho hb1
              obtain ⟨w2, hw2⟩ : ∃ y, w1.alloc (.cells (I.cells U).toArray 32) = y := ⟨_, rfl⟩
              rw [hw2] at HC
              have S2 := Lib.hid hw2
              clear hw2
              go_upto_region 2 with (refine wpList_storeNew rfl _ _ 32 rfl _ (I.cells U).toArray inn_info (by rfl) (by rfl) rfl (Inn.one _ HON.out) ?_; rw [S2.out])
              obtain ⟨G, hG⟩ : ∃ y, w1.heap.size = y := ⟨_, rfl⟩
              rw [hG] at HC ⊢
              clear S2 hG
              go_wp2_with (first
                | (refine wpList_load_row rfl 32 _ rfl w.heap.size (by rfl) 32 (I.cells V).toArray (0, 0) _ HC.out.inn Try.underlying32 rfl inn_info ?_)
                | (refine wpList_load_g (by rfl) 32 _ rfl w.heap.size (by rfl) 32 (I.cells V).toArray (0, 0) _ HC.out.inn Try.underlying32 rfl inn_info ?_)
                | (refine wpList_load_row rfl 32 _ rfl G (by rfl) 32 ((I).cells U).toArray (0, 0) _ HC.out.aft Try.underlying32 rfl inn_info ?_)
                | (refine wpList_storeC rfl _ _ 32 rfl (w.heap.size + 1) 32 zeroL ((I).cells U).toArray inn_info (by rfl) (by rfl) HC.out.res rfl (Inn.one _ HON.out) ?_))
              refine (known_f I V (P + 1) _ _ HL.out (HV.out.to HC.out.bel) HK.out).mono ?_
              rintro e wx ⟨rfl, hbx⟩
              have HC := Lib.hid (HC.out.to hbx)
              clear hbx
              have c12 := HC.out.ist
              have c13 := HC.out.iot
              have k12 := HC.out.ist
              have k13 := HC.out.iot
              have m1 := HC.out.ot
              have m2 := HC.out.fr 13
              have HJ := Lib.hid (HC.out.setOt 0)
              have HJ := Lib.hid (show Cs w _ w.heap.size (w.heap.size + 1) G V I U (retJ I (P + 1)) from by have h := HJ.out; unfold retJ; rw [if_neg HE.out]; exact h)
              have HC := Lib.hid HJ.out
              clear HJ
              have HLJ := Lib.hid (show (retJ I (P + 1)).Few by unfold retJ; split <;> exact ⟨HL.out.b, HL.out.bo, HL.out.be, HL.out.bd, HL.out.sb⟩)
              go_wp2_with (fail)
              refine (dismiss_f (retJ I (P + 1)) U (P + 1) G w.heap.size _ HLJ.out HC.out.aft HC.out.own HC.out.awa).mono ?_
              rintro e wd ⟨rfl, hd1, hd2, hd3⟩
              have HC := Lib.hid (HC.out.dis hd1 hd2 hd3)
              clear hd1 hd2 hd3
              go_wp2_with (first
                | (refine wpList_load_row rfl 32 _ rfl w.heap.size (by rfl) 32 (I.cells V).toArray (0, 0) _ HC.out.inn Try.underlying32 rfl inn_info ?_)
                | (refine wpList_load_g (by rfl) 32 _ rfl w.heap.size (by rfl) 32 (I.cells V).toArray (0, 0) _ HC.out.inn Try.underlying32 rfl inn_info ?_)
                | (refine wpList_load_row rfl 32 _ rfl G (by rfl) 32 ((dismissS (retJ I (P + 1)) (P + 1)).cells U).toArray (0, 0) _ HC.out.aft Try.underlying32 rfl inn_info ?_)
                | (refine wpList_storeC rfl _ _ 32 rfl (w.heap.size + 1) 32 zeroL ((dismissS (retJ I (P + 1)) (P + 1)).cells U).toArray inn_info (by rfl) (by rfl) HC.out.res rfl (Inn.one _ HON.out) ?_))
              obtain ⟨f1, f2, f3⟩ := HC.out.fin
              refine ret_cell2 (g := w.heap.size + 1) (xs := (dismissS (retJ I (P + 1)) (P + 1)).cells U) rfl rfl rfl f1 Try.underlying32 rfl inn_info rfl ?_
              exact ⟨U, rfl, f2, f3⟩
          · show Calls Try.prog 26 #[.agg (I.cells V).toArray, .int .i64 (P + 1), .bool true] w fun e w' => ∃ U, e = .returned (.tuple #[.agg ((hurtJ (retJ I (P + 1)) P).cells U).toArray, .int .i64 0]) ∧ InnO w' w.heap.size U (hurtJ (retJ I (P + 1)) P) ∧ Below w.heap.size w w'
            cases g2 : ((P : Int) + 1 != I.st)
            · have HE := Lib.hid (show ((P : Int) + 1) = I.st by simpa using g2)
              have g4 : ((P : Int) + 1 == I.st) = true := by simpa using g2
              go_enter Try.func26, Try.ntmps26
              go_wp2_with (first
                | (refine wpList_load_row rfl 32 _ rfl w.heap.size (by rfl) 32 (I.cells V).toArray (0, 0) _ ((Blk.new w _ _).to (cur_new _ _)) Try.underlying32 rfl inn_info ?_))
              obtain ⟨hin, hre, hb0⟩ := entry2 w (I.cells V) [.int .i64 0, .int .i64 0, .int .i64 0, .int .i64 0, .int .i64 0, .int .i64 0, .int .i64 0, .int .i64 0, .int .i64 0, .int .i64 0, .int .i64 0, .int .i64 0, .int .i64 0, .int .i64 0, .slice none 0 0, .int .i64 0, .slice none 0 0, .slice none 0 0, .bool false, .slice none 0 0, .bool false, .int .i64 0, .int .i64 0, .int .i64 0, .slice none 0 0, .int .i64 0, .int .i64 0, .int .u8 0] 32 32
              generalize (w.alloc (Obj.cells (I.cells V).toArray 32)).alloc (Obj.cells [.int .i64 0, .int .i64 0, .int .i64 0, .int .i64 0, .int .i64 0, .int .i64 0, .int .i64 0, .int .i64 0, .int .i64 0, .int .i64 0, .int .i64 0, .int .i64 0, .int .i64 0, .int .i64 0, .slice none 0 0, .int .i64 0, .slice none 0 0, .slice none 0 0, .bool false, .slice none 0 0, .bool false, .int .i64 0, .int .i64 0, .int .i64 0, .slice none 0 0, .int .i64 0, .int .i64 0, .int .u8 0].toArray 32) = w0 at hin hre hb0 ⊢
              refine (own_f I V w0 HL.out (HV.out.to hb0)).mono ?_
              rintro e w1 ⟨U, rfl, ho, hb1⟩
              have HC := Lib.hid (Cs.start hin hre hb0 (by omega) (Nat.le_refl _) (by omega) ho hb1)
              have HON := Lib.hid ho.ones
              clear hin hre hb0 ho hb1
              obtain ⟨w2, hw2⟩ : ∃ y, w1.alloc (.cells (I.cells U).toArray 32) = y := ⟨_, rfl⟩
              rw [hw2] at HC
              have S2 := Lib.hid hw2
              clear hw2
              go_upto_region 2 with (refine wpList_storeNew rfl _ _ 32 rfl _ (I.cells U).toArray inn_info (by rfl) (by rfl) rfl (Inn.one _ HON.out) ?_; rw [S2.out])
              obtain ⟨G, hG⟩ : ∃ y, w1.heap.size = y := ⟨_, rfl⟩
              rw [hG] at HC ⊢
              clear S2 hG
              go_wp2_with (first
                | (refine wpList_load_row rfl 32 _ rfl w.heap.size (by rfl) 32 (I.cells V).toArray (0, 0) _ HC.out.inn Try.underlying32 rfl inn_info ?_)
                | (refine wpList_load_g (by rfl) 32 _ rfl w.heap.size (by rfl) 32 (I.cells V).toArray (0, 0) _ HC.out.inn Try.underlying32 rfl inn_info ?_)
                | (refine wpList_load_row rfl 32 _ rfl G (by rfl) 32 ((I).cells U).toArray (0, 0) _ HC.out.aft Try.underlying32 rfl inn_info ?_)
                | (refine wpList_storeC rfl _ _ 32 rfl (w.heap.size + 1) 32 zeroL ((I).cells U).toArray inn_info (by rfl) (by rfl) HC.out.res rfl (Inn.one _ HON.out) ?_))
              refine (known_f I V (P + 1) _ _ HL.out (HV.out.to HC.out.bel) HK.out).mono ?_
              rintro e wx ⟨rfl, hbx⟩
              have HC := Lib.hid (HC.out.to hbx)
              clear hbx
              have c12 := HC.out.ist
              have c13 := HC.out.iot
              go_wp2_with (first
                | (refine wpList_load_row rfl 32 _ rfl w.heap.size (by rfl) 32 (I.cells V).toArray (0, 0) _ HC.out.inn Try.underlying32 rfl inn_info ?_)
                | (refine wpList_load_g (by rfl) 32 _ rfl w.heap.size (by rfl) 32 (I.cells V).toArray (0, 0) _ HC.out.inn Try.underlying32 rfl inn_info ?_)
                | (refine wpList_load_row rfl 32 _ rfl G (by rfl) 32 ((I).cells U).toArray (0, 0) _ HC.out.aft Try.underlying32 rfl inn_info ?_)
                | (refine wpList_storeC rfl _ _ 32 rfl (w.heap.size + 1) 32 zeroL ((I).cells U).toArray inn_info (by rfl) (by rfl) HC.out.res rfl (Inn.one _ HON.out) ?_))
              refine (left_p I V _ HL.out (HV.out.to HC.out.bel)).mono ?_
              rintro e wx ⟨LA, lc, rfl, _, hbx⟩
              have HC := Lib.hid (HC.out.to hbx)
              clear hbx
              have gl := HFE.out (by first | rfl | trivial)
              have gl2 : (((leftS I).length : Int) == 0) = false := by simp at gl ⊢; exact gl
              have k12 := HC.out.ist
              have k13 := HC.out.iot
              have m1 := HC.out.st
              have m2 := HC.out.fr 12
              have HJ := Lib.hid (HC.out.setSt 0)
              have HJ := Lib.hid (show Cs w _ w.heap.size (w.heap.size + 1) G V I U (retJ I (P + 1)) from by have h := HJ.out; unfold retJ; rw [if_pos HE.out]; exact h)
              have hJb : (retJ I (P + 1)).b = I.b := by unfold retJ; split <;> rfl
              obtain ⟨b, k, hVb, hk, hbb, hbl⟩ := HJ.out.own.blk (by rw [hJb]; omega)
              obtain ⟨n, hnn⟩ : ∃ n, I.b.length = n := ⟨_, rfl⟩
              have hVn := hVb
              rw [hJb, hnn] at hVn hk
              rw [hnn] at hPl hn
              have c14 := HJ.out.lb hVn
              obtain ⟨⟨x1, c1⟩, f1⟩ := HJ.out.bat hVb (P := P) (by rw [hJb]; omega)
              have HC := Lib.hid (HJ.out.setB hVb P 3)
              have HC := Lib.hid (show Cs w _ w.heap.size (w.heap.size + 1) G V I U (hurtJ (retJ I (P + 1)) P) from HC.out)
              have hPk : P < k := by omega
              clear hVb hVn hnn HJ hJb
              go_wp2_with (first
                | (refine wpList_load_row rfl 32 _ rfl w.heap.size (by rfl) 32 (I.cells V).toArray (0, 0) _ HC.out.inn Try.underlying32 rfl inn_info ?_)
                | (refine wpList_load_g (by rfl) 32 _ rfl w.heap.size (by rfl) 32 (I.cells V).toArray (0, 0) _ HC.out.inn Try.underlying32 rfl inn_info ?_)
                | (refine wpList_load_row rfl 32 _ rfl G (by rfl) 32 ((hurtJ (retJ I (P + 1)) P).cells U).toArray (0, 0) _ HC.out.aft Try.underlying32 rfl inn_info ?_)
                | (refine wpList_storeC rfl _ _ 32 rfl (w.heap.size + 1) 32 zeroL ((hurtJ (retJ I (P + 1)) P).cells U).toArray inn_info (by rfl) (by rfl) HC.out.res rfl (Inn.one _ HON.out) ?_))
              obtain ⟨f1, f2, f3⟩ := HC.out.fin
              refine ret_cell2 (g := w.heap.size + 1) (xs := (hurtJ (retJ I (P + 1)) P).cells U) rfl rfl rfl f1 Try.underlying32 rfl inn_info rfl ?_
              exact ⟨U, rfl, f2, f3⟩
            · have g3 := HNE.out g2
              have HE := Lib.hid (show ¬ ((P : Int) + 1) = I.st by simpa using g2)
              have g4 : ((P : Int) + 1 == I.st) = false := by simpa using g2
              go_enter Try.func26, Try.ntmps26
              go_wp2_with (first
                | (refine wpList_load_row rfl 32 _ rfl w.heap.size (by rfl) 32 (I.cells V).toArray (0, 0) _ ((Blk.new w _ _).to (cur_new _ _)) Try.underlying32 rfl inn_info ?_))
              obtain ⟨hin, hre, hb0⟩ := entry2 w (I.cells V) [.int .i64 0, .int .i64 0, .int .i64 0, .int .i64 0, .int .i64 0, .int .i64 0, .int .i64 0, .int .i64 0, .int .i64 0, .int .i64 0, .int .i64 0, .int .i64 0, .int .i64 0, .int .i64 0, .slice none 0 0, .int .i64 0, .slice none 0 0, .slice none 0 0, .bool false, .slice none 0 0, .bool false, .int .i64 0, .int .i64 0, .int .i64 0, .slice none 0 0, .int .i64 0, .int .i64 0, .int .u8 0] 32 32
              generalize (w.alloc (Obj.cells (I.cells V).toArray 32)).alloc (Obj.cells [.int .i64 0, .int .i64 0, .int .i64 0, .int .i64 0, .int .i64 0, .int .i64 0, .int .i64 0, .int .i64 0, .int .i64 0, .int .i64 0, .int .i64 0, .int .i64 0, .int .i64 0, .int .i64 0, .slice none 0 0, .int .i64 0, .slice none 0 0, .slice none 0 0, .bool false, .slice none 0 0, .bool false, .int .i64 0, .int .i64 0, .int .i64 0, .slice none 0 0, .int .i64 0, .int .i64 0, .int .u8 0].toArray 32) = w0 at hin hre hb0 ⊢
              refine (own_f I V w0 HL.out (HV.out.to hb0)).mono ?_
              rintro e w1 ⟨U, rfl, ho, hb1⟩
              have HC := Lib.hid (Cs.start hin hre hb0 (by omega) (Nat.le_refl _) (by omega) ho hb1)
              have HON := Lib.hid ho.ones
              clear hin hre hb0 ho hb1
              obtain ⟨w2, hw2⟩ : ∃ y, w1.alloc (.cells (I.cells U).toArray 32) = y := ⟨_, rfl⟩
              rw [hw2] at HC
              have S2 := Lib.hid hw2
              clear hw2
              go_upto_region 2 with (refine wpList_storeNew rfl _ _ 32 rfl _ (I.cells U).toArray inn_info (by rfl) (by rfl) rfl (Inn.one _ HON.out) ?_; rw [S2.out])
              obtain ⟨G, hG⟩ : ∃ y, w1.heap.size = y := ⟨_, rfl⟩
              rw [hG] at HC ⊢
              clear S2 hG
              go_wp2_with (first
                | (refine wpList_load_row rfl 32 _ rfl w.heap.size (by rfl) 32 (I.cells V).toArray (0, 0) _ HC.out.inn Try.underlying32 rfl inn_info ?_)
                | (refine wpList_load_g (by rfl) 32 _ rfl w.heap.size (by rfl) 32 (I.cells V).toArray (0, 0) _ HC.out.inn Try.underlying32 rfl inn_info ?_)
                | (refine wpList_load_row rfl 32 _ rfl G (by rfl) 32 ((I).cells U).toArray (0, 0) _ HC.out.aft Try.underlying32 rfl inn_info ?_)
                | (refine wpList_storeC rfl _ _ 32 rfl (w.heap.size + 1) 32 zeroL ((I).cells U).toArray inn_info (by rfl) (by rfl) HC.out.res rfl (Inn.one _ HON.out) ?_))
              refine (known_f I V (P + 1) _ _ HL.out (HV.out.to HC.out.bel) HK.out).mono ?_
              rintro e wx ⟨rfl, hbx⟩
              have HC := Lib.hid (HC.out.to hbx)
              clear hbx
              have c12 := HC.out.ist
              have c13 := HC.out.iot
              go_wp2_with (first
                | (refine wpList_load_row rfl 32 _ rfl w.heap.size (by rfl) 32 (I.cells V).toArray (0, 0) _ HC.out.inn Try.underlying32 rfl inn_info ?_)
                | (refine wpList_load_g (by rfl) 32 _ rfl w.heap.size (by rfl) 32 (I.cells V).toArray (0, 0) _ HC.out.inn Try.underlying32 rfl inn_info ?_)
                | (refine wpList_load_row rfl 32 _ rfl G (by rfl) 32 ((I).cells U).toArray (0, 0) _ HC.out.aft Try.underlying32 rfl inn_info ?_)
                | (refine wpList_storeC rfl _ _ 32 rfl (w.heap.size + 1) 32 zeroL ((I).cells U).toArray inn_info (by rfl) (by rfl) HC.out.res rfl (Inn.one _ HON.out) ?_))
              refine (left_p I V _ HL.out (HV.out.to HC.out.bel)).mono ?_
              rintro e wx ⟨LA, lc, rfl, _, hbx⟩
              have HC := Lib.hid (HC.out.to hbx)
              clear hbx
              have gl := HFE.out (by first | rfl | trivial)
              have gl2 : (((leftS I).length : Int) == 0) = false := by simp at gl ⊢; exact gl
              have k12 := HC.out.ist
              have k13 := HC.out.iot
              have m1 := HC.out.ot
              have m2 := HC.out.fr 13
              have HJ := Lib.hid (HC.out.setOt 0)
              have HJ := Lib.hid (show Cs w _ w.heap.size (w.heap.size + 1) G V I U (retJ I (P + 1)) from by have h := HJ.out; unfold retJ; rw [if_neg HE.out]; exact h)
              have hJb : (retJ I (P + 1)).b = I.b := by unfold retJ; split <;> rfl
              obtain ⟨b, k, hVb, hk, hbb, hbl⟩ := HJ.out.own.blk (by rw [hJb]; omega)
              obtain ⟨n, hnn⟩ : ∃ n, I.b.length = n := ⟨_, rfl⟩
              have hVn := hVb
              rw [hJb, hnn] at hVn hk
              rw [hnn] at hPl hn
              have c14 := HJ.out.lb hVn
              obtain ⟨⟨x1, c1⟩, f1⟩ := HJ.out.bat hVb (P := P) (by rw [hJb]; omega)
              have HC := Lib.hid (HJ.out.setB hVb P 3)
              have HC := Lib.hid (show Cs w _ w.heap.size (w.heap.size + 1) G V I U (hurtJ (retJ I (P + 1)) P) from HC.out)
              have hPk : P < k := by omega
              clear hVb hVn hnn HJ hJb
              go_wp2_with (first
                | (refine wpList_load_row rfl 32 _ rfl w.heap.size (by rfl) 32 (I.cells V).toArray (0, 0) _ HC.out.inn Try.underlying32 rfl inn_info ?_)
                | (refine wpList_load_g (by rfl) 32 _ rfl w.heap.size (by rfl) 32 (I.cells V).toArray (0, 0) _ HC.out.inn Try.underlying32 rfl inn_info ?_)
                | (refine wpList_load_row rfl 32 _ rfl G (by rfl) 32 ((hurtJ (retJ I (P + 1)) P).cells U).toArray (0, 0) _ HC.out.aft Try.underlying32 rfl inn_info ?_)
                | (refine wpList_storeC rfl _ _ 32 rfl (w.heap.size + 1) 32 zeroL ((hurtJ (retJ I (P + 1)) P).cells U).toArray inn_info (by rfl) (by rfl) HC.out.res rfl (Inn.one _ HON.out) ?_))
              obtain ⟨f1, f2, f3⟩ := HC.out.fin
              refine ret_cell2 (g := w.heap.size + 1) (xs := (hurtJ (retJ I (P + 1)) P).cells U) rfl rfl rfl f1 Try.underlying32 rfl inn_info rfl ?_
              exact ⟨U, rfl, f2, f3⟩
end Go.Proofs.Ytjlmlafiojpjmaa
