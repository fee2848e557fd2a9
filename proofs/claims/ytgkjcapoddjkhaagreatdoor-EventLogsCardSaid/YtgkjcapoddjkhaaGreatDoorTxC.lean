/-
  Chapter 3: the fields of a line, read by the program.
-/
import Derived.Test.YtgkjcapoddjkhaaGreatDoorTxB
set_option linter.unusedSimpArgs false
set_option linter.unusedVariables false
namespace Go.Proofs.YtgkjcapoddjkhaaGreatDoor
open Go.RowKit
set_option maxRecDepth 100000
set_option maxHeartbeats 4000000
theorem sA_slice (l : List UInt8) (i j : Nat) : (sA l).extract i j = sA ((l.drop i).take (j - i)) := by
  apply ByteArray.ext
  rw [ByteArray.data_extract]
  apply Array.ext'
  rw [Array.toList_extract]
  simp [sA, List.extract]
theorem quoL_le : ∀ (j : Nat) (acc r : List UInt8), j ≤ (quoL j acc r).2.1 ∧ (quoL j acc r).2.1 ≤ j + r.length
  | j, _, [] => ⟨Nat.le_refl _, by simp [quoL]⟩
  | j, acc, [c] => by
    unfold quoL
    split
    · exact ⟨by simp, by simp⟩
    · split <;> exact ⟨by simp, by simp⟩
  | j, acc, c :: d :: r => by
    unfold quoL
    split
    · split
      · have := quoL_le (j + 2) (acc ++ [34]) r
        simp only [List.length_cons]
        omega
      · exact ⟨by simp, by simp⟩
    · split
      · have := quoL_le (j + 1) (acc ++ [c]) (d :: r)
        simp only [List.length_cons] at this ⊢
        omega
      · exact ⟨by simp, by simp⟩
theorem quoL_text : ∀ (j : Nat) (acc r : List UInt8), acc.length + 1 ≤ j → (quoL j acc r).1.length ≤ (quoL j acc r).2.1
  | j, _, [], h => by simp [quoL]
  | j, acc, [c], h => by
    unfold quoL
    split
    · show acc.length ≤ j + 1; omega
    · split <;> simp
  | j, acc, c :: d :: r, h => by
    unfold quoL
    split
    · split
      · exact quoL_text (j + 2) (acc ++ [34]) r (by simp; omega)
      · show acc.length ≤ j + 1; omega
    · split
      · exact quoL_text (j + 1) (acc ++ [c]) (d :: r) (by simp; omega)
      · simp
theorem quoL_gt {j : Nat} {acc r : List UInt8} (h : (quoL j acc r).2.2 = true) : j < (quoL j acc r).2.1 := by
  match r with
  | [] => simp [quoL] at h
  | [c] =>
    unfold quoL at h ⊢
    split
    · simp
    · next hc => rw [if_neg hc] at h; split at h <;> simp at h
  | c :: d :: r =>
    unfold quoL at h ⊢
    split
    · split
      · have := (quoL_le (j + 2) (acc ++ [34]) r).1; omega
      · simp
    · next hc =>
      rw [if_neg hc] at h
      split
      · have := (quoL_le (j + 1) (acc ++ [c]) (d :: r)).1; omega
      · next hp => rw [if_neg hp] at h; simp at h
def twL (r : List UInt8) : Nat := (r.takeWhile wordC).length
theorem twL_nil : twL [] = 0 := rfl
theorem twL_on {c : UInt8} {r : List UInt8} (h : wordC c = true) : twL (c :: r) = twL r + 1 := by unfold twL; rw [List.takeWhile_cons, if_pos h]; rfl
theorem twL_off {c : UInt8} {r : List UInt8} (h : wordC c = false) : twL (c :: r) = 0 := by unfold twL; rw [List.takeWhile_cons, h]; rfl
theorem twL_le (r : List UInt8) : twL r ≤ r.length := by
  induction r with
  | nil => exact Nat.le_refl 0
  | cons c r ih =>
    cases h : wordC c with
    | true => rw [twL_on h]; simp; exact ih
    | false => rw [twL_off h]; omega
def FlR (l : List UInt8) (F : List Fld × Int) (w : World) (v av iv : Value) (wr : World) : Prop := ∃ (i n : Nat) (aft : Bool) (acc : List Fld) (A : Option Addr) (cp : Nat), i ≤ l.length ∧ acc.length ≤ i ∧ l.length - i < n ∧ iv = .int .i64 i ∧ av = .bool aft ∧ v = .slice A acc.length cp ∧ OwnL flE 3 101 w.heap.size wr (.slice A acc.length cp) acc ∧ fldF n i aft acc (l.drop i) = F ∧ Below w.heap.size w wr
def WlR (l : List UInt8) (i K : Nat) (wr : World) (jv : Value) (wx : World) : Prop := ∃ j : Nat, wx = wr ∧ i ≤ j ∧ j ≤ l.length ∧ jv = .int .i64 j ∧ (j - i) + twL (l.drop j) = K
theorem fields_p (l : List UInt8) (hl : l.length ≤ 100000) (w : World) : Calls Tryz.prog 75 #[.string (sA l)] w fun e w' => ∃ v, e = .returned (.tuple #[v, .int .i64 (fieldsP l).2]) ∧ OwnL flE 3 101 w.heap.size w' v (fieldsP l).1 ∧ Below w.heap.size w w' := by
  obtain ⟨F, hF⟩ : ∃ F, fieldsP l = F := ⟨_, rfl⟩
  rw [hF]
  obtain ⟨s, hs⟩ : ∃ s, sA l = s := ⟨_, rfl⟩
  have hsz : s.size = l.length := by rw [← hs, sA_sz]
  rw [hs]
  have HS := Lib.hid hs
  have HF := Lib.hid hF
  clear hs hF
  go_enter Tryz.func75, Tryz.ntmps75
  go_wp2_with (fail)
  go_loopw [4, 5, 6] (FlR l F w) (fun _ _ i _ => l.length - (intOf i).toNat)
  case atStart => exact ⟨0, l.length + 1, false, [], none, 0, by omega, by simp, by omega, rfl, rfl, rfl, World.ownsRow_nil _ _ _ _, HF.out, Below.refl _ _⟩
  case round =>
    obtain ⟨i, n, aft, acc, A, cp, hi, hac, hn, rfl, rfl, rfl, hown, hq, hb⟩ := hrel
    have HO := Lib.hid hown
    have HB := Lib.hid hb
    clear hown hb
    rcases hr : l.drop i with _ | ⟨c, r⟩
    · have hjl : i = l.length := by have := congrArg List.length hr; simp at this; omega
      have HQ2 := Lib.hid (show F = (acc, 0) by rw [← hq, hr]; cases n with | zero => omega | succ n => rfl)
      clear hq hr
      have hlt : decide ((i : Int) < s.size) = false := by simp; omega
      subst hjl
      go_wp2_with (fail)
      go_ret2
      rw [HQ2.out]
      exact ⟨_, rfl, HO.out, HB.out⟩
    · obtain ⟨hj1, hc, hr1⟩ := drop_cons hr
      obtain ⟨hz, hsj⟩ := sA_at HS.out hc
      have h256 : c.toNat < 256 := c.toNat_lt
      have hlt : decide ((i : Int) < s.size) = true := by simp; omega
      obtain ⟨n, rfl⟩ : ∃ m, n = m + 1 := ⟨n - 1, by omega⟩
      rw [hr] at hq
      go_wp2_with (fail)
      refine (white_p c wr).mono ?_
      rintro e w1 ⟨rfl, rfl⟩
      by_cases hw : whiteC c = true
      · rw [hw]
        have HQ2 := Lib.hid (show fldF n (i + 1) false acc (l.drop (i + 1)) = F by rw [← hq, hr1]; simp [fldF, hw])
        clear hq hw hr
        go_wp2_with (fail)
        exact ⟨⟨i + 1, n, false, acc, A, cp, by omega, by omega, by omega, rfl, rfl, rfl, HO.out, HQ2.out, HB.out⟩, by show l.length - (i + 1) < l.length - i; omega⟩
      · have hw : whiteC c = false := by simpa using hw
        rw [hw]
        by_cases h59 : c = 59
        · have HQ2 := Lib.hid (show F = (acc, 0) by rw [← hq]; simp only [fldF, hw, Bool.false_eq_true, if_false]; rw [if_pos h59])
          clear hq hw hr
          have g1 : ((c.toNat : Int) == 59) = true := by rw [h59]; rfl
          go_wp2_with (fail)
          go_ret2
          rw [HQ2.out]
          exact ⟨_, rfl, HO.out, HB.out⟩
        · have g1 : ((c.toNat : Int) == 59) = false := by simp; intro h; exact h59 (UInt8.toNat.inj (by simpa using (by omega : c.toNat = 59)))
          by_cases haft : aft = true
          · subst haft
            have HQ2 := Lib.hid (show F = ([], (i : Int) + 1) by rw [← hq]; simp [fldF, hw, h59])
            clear hq hw hr
            go_wp2_with (fail)
            go_ret2
            rw [HQ2.out]
            exact ⟨_, rfl, World.ownsRow_nil _ _ _ _, HB.out⟩
          · have haft : aft = false := by simpa using haft
            subst haft
            have haft : (false : Bool) = false := rfl
            by_cases h34 : c = 34
            · obtain ⟨q, hqq⟩ : ∃ q, quoL (i + 1) [] (l.drop (i + 1)) = q := ⟨_, rfl⟩
              have NQ := Lib.hid hqq
              have g3 : ((c.toNat : Int) == 34) = true := by rw [h34]; rfl
              have hq1 : i + 1 ≤ q.2.1 ∧ q.2.1 ≤ l.length := by have := quoL_le (i + 1) [] (l.drop (i + 1)); rw [hqq] at this; simp at this; omega
              have hq2 : q.1.length ≤ q.2.1 := by have := quoL_text (i + 1) [] (l.drop (i + 1)) (by simp); rw [hqq] at this; exact this
              have hq3 : q.2.2 = true → i + 1 < q.2.1 := fun h => by have := quoL_gt (j := i + 1) (acc := []) (r := l.drop (i + 1)); rw [hqq] at this; exact this h
              clear hqq
              have hql := quoted_p l (by omega) i hj1 wr
              rw [NQ.out] at hql
              obtain ⟨qt, qn, qb⟩ := q
              dsimp only at hql hq1 hq2 hq3
              have HQC := Lib.hid hql
              have HQ2 := Lib.hid (show F = if qb = true then fldF n qn true (acc ++ [⟨qt, (i : Int) + 1, true⟩]) (l.drop qn) else ([], (qn : Int) + 1) by rw [← hq]; have h1 := NQ.out; rw [hr1] at h1; simp only [fldF, hw, Bool.false_eq_true, if_false]; rw [if_neg h59, if_pos h34, h1]; dsimp only; rw [← hr, List.drop_drop, show i + (qn - i) = qn by omega])
              clear hq hw hr hql
              obtain ⟨qS, hqS⟩ : ∃ y, sA qt = y := ⟨_, rfl⟩
              have NqS := Lib.hid hqS
              clear hqS
              go_wp2_with (fail)
              rw [HS.out] at HQC
              refine HQC.out.mono ?_
              rintro e w2 ⟨rfl, hb2⟩
              rw [NqS.out]
              have HB2 := Lib.hid (cur_step1 HB.out hb2)
              have HO2 := Lib.hid (show OwnL flE 3 101 w.heap.size w2 (.slice A acc.length cp) acc from own_below HO.out hb2 (Nat.le_refl _))
              clear hb2
              cases qb
              · have HQ3 := Lib.hid (show F = ([], (qn : Int) + 1) by rw [HQ2.out]; rfl)
                clear HQ2
                go_wp2_with (fail)
                go_ret2
                rw [HQ3.out]
                exact ⟨_, rfl, World.ownsRow_nil _ _ _ _, HB2.out⟩
              · have HQ3 := Lib.hid (show fldF n qn true (acc ++ [⟨qt, (i : Int) + 1, true⟩]) (l.drop qn) = F by rw [HQ2.out]; rfl)
                clear HQ2
                have hq4 := hq3 rfl
                clear hq3
                go_wp2_with (at_builtin; refine wpList_app1 Tryz.flElem _ rfl (.tmp 89) (.tmp 94) rfl w.heap.size A cp acc rfl ?o1 (⟨qt, (i : Int) + 1, true⟩ : Fld) w2.heap.size 1 rfl ?o2 ?o3 ?o4 ?o5 ?_)
                case o1 => exact World.ownsRow.alloc HO2.out _
                case o2 => first | (rw [show flE (⟨qt, (i : Int) + 1, true⟩ : Fld) = [.string qS, .int .i64 ((i : Int) + 1), .bool true] from by unfold flE; rw [NqS.out]]; exact heap_alloc_new _ _) | exact heap_alloc_new _ _ | exact (Array.getElem?_eq_some_iff.1 (heap_alloc_new _ _)).2
                case o3 => unfold maxLen; omega
                case o4 => omega
                case o5 => first | (have := (HB2.out).size; omega) | (have := (HB2.out).size; simp; omega)
                intro g cap w6 ha
                obtain ⟨hb6, ho6⟩ := app1_end (HB2.out) (own_base HO2.out) (cur_new _ _) ha
                rw [List.length_append] at ho6
                have HB6 := Lib.hid hb6
                have HO6 := Lib.hid ho6
                clear ha hb6 ho6
                go_wp2_with (fail)
                exact ⟨⟨qn, n, true, acc ++ [⟨qt, (i : Int) + 1, true⟩], some ⟨g, 0, none⟩, cap, by omega, by simp; omega, by omega, rfl, rfl, by simp, by have := HO6.out; simpa using this, HQ3.out, HB6.out⟩, by show l.length - qn < l.length - i; omega⟩
            · obtain ⟨K, hK⟩ : ∃ K, twL (c :: r) = K := ⟨_, rfl⟩
              have hKl : i + K ≤ l.length := by have := twL_le (c :: r); rw [hK, ← hr] at this; simp at this; omega
              have HQ2 := Lib.hid (show F = if K = 0 ∨ (l.drop (i + K)).head? = some 34 then ([], ((i + K : Nat) : Int) + 1) else fldF n (i + K) false (acc ++ [⟨(l.drop i).take K, (i : Int) + 1, false⟩]) (l.drop (i + K)) by rw [← hq]; have h1 : ((c :: r).takeWhile wordC).length = K := hK; simp only [fldF, hw, Bool.false_eq_true, if_false]; rw [if_neg h59, if_neg h34, h1, ← hr, List.drop_drop])
              have HK := Lib.hid (show twL (l.drop i) = K by rw [hr]; exact hK)
              have g3 : ((c.toNat : Int) == 34) = false := by simp; intro h; exact h34 (UInt8.toNat.inj (by simpa using (by omega : c.toNat = 34)))
              clear hq hw hr hK hr1
              go_wp2_with (fail)
              go_loopw [10] (WlR l i K wr) (fun j _ => l.length - (intOf j).toNat)
              case atStart => exact ⟨i, rfl, Nat.le_refl _, by omega, rfl, by rw [HK.out]; omega⟩
              case round =>
                obtain ⟨j, rfl, hij, hjl, rfl, hjK⟩ := hrel
                rcases hr : l.drop j with _ | ⟨d, r2⟩
                · have hjl2 : j = l.length := by have := congrArg List.length hr; simp at this; omega
                  have hlt2 : decide ((j : Int) < s.size) = false := by simp; omega
                  have hjK2 : j = i + K := by rw [hr, twL_nil] at hjK; omega
                  have hh : (l.drop (i + K)).head? = none := by rw [← hjK2, hr]; rfl
                  clear hjK hr
                  have hKF := Lib.hid (show fldF n j false (acc ++ [⟨(l.drop i).take K, (i : Int) + 1, false⟩]) (l.drop j) = F by rw [HQ2.out, if_neg (by rw [hh]; simp; omega), hjK2])
                  have gij : ((j : Int) == i) = false := by simp; omega
                  have HJL := Lib.hid hjl2
                  have HJK := Lib.hid hjK2
                  have hK0 : 0 < K := by omega
                  have g7 : ¬ j < l.length := by omega
                  clear hh HQ2 hjl2 hjK2
                  obtain ⟨tS, htS⟩ : ∃ y, sA ((l.drop i).take K) = y := ⟨_, rfl⟩
                  have hte : s.extract i j = tS := by rw [← HS.out, ← htS, sA_slice, show j - i = K by (have := HJK.out; omega)]
                  have NtS := Lib.hid htS
                  have hij3 : i < j := by have := HJK.out; omega
                  clear htS
                  go_wp2_with (at_builtin; refine wpList_app1 Tryz.flElem _ rfl (.tmp 45) (.tmp 53) rfl w.heap.size A cp acc rfl ?o1 (⟨(l.drop i).take K, (i : Int) + 1, false⟩ : Fld) wr.heap.size 1 rfl ?o2 ?o3 ?o4 ?o5 ?_)
                  case o1 => exact World.ownsRow.alloc HO.out _
                  case o2 => first | (rw [show flE (⟨(l.drop i).take K, (i : Int) + 1, false⟩ : Fld) = [.string tS, .int .i64 ((i : Int) + 1), .bool false] from by unfold flE; rw [NtS.out]]; exact heap_alloc_new _ _) | exact heap_alloc_new _ _ | exact (Array.getElem?_eq_some_iff.1 (heap_alloc_new _ _)).2
                  case o3 => unfold maxLen; omega
                  case o4 => omega
                  case o5 => first | (have := (HB.out).size; omega) | (have := (HB.out).size; simp; omega)
                  intro g cap w6 ha
                  obtain ⟨hb6, ho6⟩ := app1_end (HB.out) (own_base HO.out) (cur_new _ _) ha
                  rw [List.length_append] at ho6
                  have HB6 := Lib.hid hb6
                  have HO6 := Lib.hid ho6
                  clear ha hb6 ho6
                  go_wp2_with (fail)
                  exact ⟨⟨j, n, false, acc ++ [⟨(l.drop i).take K, (i : Int) + 1, false⟩], some ⟨g, 0, none⟩, cap, by omega, by (have := HJK.out; simp; omega), by omega, rfl, rfl, by simp, by have := HO6.out; simpa using this, hKF.out, HB6.out⟩, by show l.length - j < l.length - i; omega⟩
                · obtain ⟨hj2, hd, hr2⟩ := drop_cons hr
                  obtain ⟨hz2, hsj2⟩ := sA_at HS.out hd
                  have h256d : d.toNat < 256 := d.toNat_lt
                  have hlt2 : decide ((j : Int) < s.size) = true := by simp; omega
                  have HH := Lib.hid (show (l.drop j).head? = some d by rw [hr]; rfl)
                  go_wp2_with (fail)
                  refine (wordb_p d _).mono ?_
                  rintro e w3 ⟨rfl, rfl⟩
                  by_cases hwd : wordC d = true
                  · rw [hwd]
                    have hjK3 : (j + 1 - i) + twL (l.drop (j + 1)) = K := by rw [hr2]; rw [hr, twL_on hwd] at hjK; omega
                    clear hjK hr hwd
                    go_wp2_with (fail)
                    exact ⟨⟨j + 1, rfl, by omega, by omega, rfl, hjK3⟩, by show l.length - (j + 1) < l.length - j; omega⟩
                  · have hwd : wordC d = false := by simpa using hwd
                    rw [hwd]
                    have hjK2 : j = i + K := by rw [hr, twL_off hwd] at hjK; omega
                    clear hjK hr hwd
                    have HJK := Lib.hid hjK2
                    by_cases hK0 : K = 0
                    · have gij : ((j : Int) == i) = true := by simp; omega
                      have HQ3 := Lib.hid (show F = ([], (j : Int) + 1) by rw [HQ2.out, if_pos (.inl hK0), hjK2])
                      clear HQ2 hjK2
                      go_wp2_with (fail)
                      go_ret2
                      rw [HQ3.out]
                      exact ⟨_, rfl, World.ownsRow_nil _ _ _ _, HB.out⟩
                    · have gij : ((j : Int) == i) = false := by simp; omega
                      by_cases hd34 : d = 34
                      · have g5 : ((d.toNat : Int) == 34) = true := by rw [hd34]; rfl
                        have HQ3 := Lib.hid (show F = ([], (j : Int) + 1) by rw [HQ2.out, ← hjK2, if_pos (.inr (by rw [HH.out, hd34]))])
                        clear HQ2 hjK2
                        go_wp2_with (fail)
                        go_ret2
                        rw [HQ3.out]
                        exact ⟨_, rfl, World.ownsRow_nil _ _ _ _, HB.out⟩
                      · have g5 : ((d.toNat : Int) == 34) = false := by simp; intro h; exact hd34 (UInt8.toNat.inj (by simpa using (by omega : d.toNat = 34)))
                        have hKF := Lib.hid (show fldF n j false (acc ++ [⟨(l.drop i).take K, (i : Int) + 1, false⟩]) (l.drop j) = F by rw [HQ2.out, ← hjK2, if_neg (by rw [HH.out]; simp [hK0, hd34])])
                        have hK0 : 0 < K := by omega
                        clear HQ2 hjK2
                        obtain ⟨tS, htS⟩ : ∃ y, sA ((l.drop i).take K) = y := ⟨_, rfl⟩
                        have hte : s.extract i j = tS := by rw [← HS.out, ← htS, sA_slice, show j - i = K by (have := HJK.out; omega)]
                        have NtS := Lib.hid htS
                        have hij3 : i < j := by have := HJK.out; omega
                        clear htS
                        go_wp2_with (at_builtin; refine wpList_app1 Tryz.flElem _ rfl (.tmp 45) (.tmp 53) rfl w.heap.size A cp acc rfl ?o1 (⟨(l.drop i).take K, (i : Int) + 1, false⟩ : Fld) wr.heap.size 1 rfl ?o2 ?o3 ?o4 ?o5 ?_)
                        case o1 => exact World.ownsRow.alloc HO.out _
                        case o2 => first | (rw [show flE (⟨(l.drop i).take K, (i : Int) + 1, false⟩ : Fld) = [.string tS, .int .i64 ((i : Int) + 1), .bool false] from by unfold flE; rw [NtS.out]]; exact heap_alloc_new _ _) | exact heap_alloc_new _ _ | exact (Array.getElem?_eq_some_iff.1 (heap_alloc_new _ _)).2
                        case o3 => unfold maxLen; omega
                        case o4 => omega
                        case o5 => first | (have := (HB.out).size; omega) | (have := (HB.out).size; simp; omega)
                        intro g cap w6 ha
                        obtain ⟨hb6, ho6⟩ := app1_end (HB.out) (own_base HO.out) (cur_new _ _) ha
                        rw [List.length_append] at ho6
                        have HB6 := Lib.hid hb6
                        have HO6 := Lib.hid ho6
                        clear ha hb6 ho6
                        go_wp2_with (fail)
                        exact ⟨⟨j, n, false, acc ++ [⟨(l.drop i).take K, (i : Int) + 1, false⟩], some ⟨g, 0, none⟩, cap, by omega, by (have := HJK.out; simp; omega), by omega, rfl, rfl, by simp, by have := HO6.out; simpa using this, hKF.out, HB6.out⟩, by show l.length - j < l.length - i; omega⟩
end Go.Proofs.YtgkjcapoddjkhaaGreatDoor
