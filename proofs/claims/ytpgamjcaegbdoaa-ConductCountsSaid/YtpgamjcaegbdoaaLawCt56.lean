/-
  Chapter 56: the law ConductCounts: the walk.
-/
import Derived.Test.YtpgamjcaegbdoaaSusQ56
namespace Go.Proofs.Ytpgamjcaegbdoaa
open Go.RowKit
set_option maxRecDepth 100000
set_option maxHeartbeats 1000000
def u8E (x : Int) : List Value := [.int .u8 x]
def ptF (b : Int) : Int := b % 8 + 1
def msL (k : Nat) : List Int := (List.range k).map fun (j : Nat) => 100 + (j : Int)
theorem msL_snoc (k : Nat) : msL (k + 1) = msL k ++ [100 + (k : Int)] := by
  unfold msL
  rw [List.range_succ, List.map_append]
  rfl
theorem msL_len (k : Nat) : (msL k).length = k := by simp [msL]
theorem ms_ck : ckM (msL 40) = 0 := by decide +kernel
theorem ms_gt : ∀ m ∈ msL 40, 80 < m := by
  intro m hm
  obtain ⟨j, _, rfl⟩ := List.mem_map.1 hm
  omega
theorem susp_ct {ns : List Int} (hl : ns.length ≤ 8) (h : ∀ n ∈ ns, 1 ≤ n ∧ n ≤ 8) : suspS (mkO 0 ns) annB (msL 40) = ((msL 40).take (2 * (sumL ns / 4)).toNat, 0) := by
  unfold suspS
  rw [if_neg (by rw [mkO_ck hl h]; simp), if_neg (by rw [ms_ck]; simp), counts (msL 40) ms_gt (msL_len 40) hl h]
theorem eq_f' (A B : Option Addr) (c d n : Nat) (a b : List Int) (v : Bool) (w : World) (hn : b.length = n) (ha : a.length ≤ 1000000) (hb : n ≤ 1000000) (hra : Rd inE 1 w w.heap.size A a) (hrb : Rd inE 1 w w.heap.size B b) (hv : (a == b) = v) :
    Calls Try.prog 16 #[.slice A a.length c, .slice B n d] w fun e w' => e = .returned (.bool v) ∧ Below w.heap.size w w' := by
  subst hn
  exact eq_f A B c d a b v w ha hb hra hrb hv
def CtR (w : World) (l : List Int) (o t i : Value) (wr : World) : Prop := ∃ (L T : List Int) (O : List Of) (S : Int) (A : Option Addr) (c : Nat), l = L ++ T ∧ i = .int .i64 L.length ∧ O = mkO 0 (L.map ptF) ∧ S = sumL (L.map ptF) ∧ t = .int .i64 S ∧ o = .slice A O.length c ∧ OwnL ofE 4 35 w.heap.size wr (.slice A O.length c) O ∧ Below w.heap.size w wr
def MtR (w : World) (o i : Value) (wr : World) : Prop := ∃ (k : Nat) (L : List Int) (A : Option Addr) (c : Nat), k ≤ 40 ∧ i = .int .i64 k ∧ L = msL k ∧ o = .slice A L.length c ∧ OwnL inE 1 2 w.heap.size wr (.slice A L.length c) L ∧ Below w.heap.size w wr
theorem law_counts (A : Option Addr) (c : Nat) (l : List Int) (w : World) (hl : l.length ≤ 9223372036854775807) (hc : l.length ≤ c) (hr : Rd u8E 1 w w.heap.size A l) (hb : ∀ x ∈ l, 0 ≤ x ∧ x ≤ 255) :
    Calls Try.prog 6 #[.slice A l.length c] w fun e w' => e = .returned (.bool true) ∧ Below w.heap.size w w' := by
  have HR := Lib.hid (hr.pre 8)
  obtain ⟨l', hl'⟩ : ∃ l', l' = l.take 8 := ⟨_, rfl⟩
  have hll : l'.length ≤ 8 := by rw [hl', few_len]; omega
  have HB8 := Lib.hid (show ∀ x ∈ l', 0 ≤ x ∧ x ≤ 255 from fun x h => hb x (List.take_subset 8 l (by rw [← hl']; exact h)))
  have e2 : min l.length 8 = l'.length := by rw [hl', few_len]
  have hm : min (l.length : Int) 8 = (l'.length : Int) := by omega
  have hlc : (l'.length : Int) ≤ (c : Int) := by omega
  have hlc2 : l'.length ≤ c := by omega
  have hll3 : l'.length ≤ l.length := by omega
  rw [← hl'] at HR
  have HN := Lib.hid e2
  clear hr hb hl' e2
  by_cases h8 : l.length ≤ 8
  · have h9 : l'.length = l.length := by have := HN.out; omega
    go_enter Try.func6, Try.ntmps6
    go_wp2_with (go_at_call 8; refine (awake_any _).mono ?_; rintro e w1 ⟨rfl, hb1⟩; have HB := Lib.hid hb1; clear hb1)
    all_goals go_wp2_with fail
    rw [← h9]
    clear h9
    go_loopw [3, 4, 20] (CtR w1 l') (fun _ _ i _ => l'.length - (intOf i).toNat)
    case atStart => exact ⟨[], l', [], 0, none, 0, rfl, rfl, rfl, rfl, rfl, rfl, World.ownsRow_nil _ _ _ _, Below.refl _ _⟩
    case round =>
      obtain ⟨L, T, O, Sm, A3, c3, hLT, rfl, hO, hS, rfl, rfl, hown, hB⟩ := hrel
      have HLT := Lib.hid hLT
      have HO := Lib.hid hown
      have HOE := Lib.hid hO
      have HSE := Lib.hid hS
      have HBr := Lib.hid hB
      have HB4 := Lib.hid (cur_step1 HB.out hB)
      have hLl : L.length ≤ 8 := by have h : L.length ≤ l'.length := by (rw [hLT]; simp)
                                    omega
      have hOl : O.length = L.length := by rw [hO, mkO_len, List.length_map]
      have hpt : ∀ n ∈ L.map ptF, 1 ≤ n ∧ n ≤ 8 := fun n hn => by
        obtain ⟨x, _, rfl⟩ := List.mem_map.1 hn
        unfold ptF
        omega
      have hSr : 0 ≤ Sm ∧ Sm ≤ 64 := by
        have h := sumL_rng hpt
        rw [List.length_map] at h
        rw [hS]
        omega
      have HPT := Lib.hid hpt
      have HOL := Lib.hid hOl
      have hOl2 : O.length ≤ 8 := by omega
      clear hLT hown hB hO hS hpt hOl
      cases T with
      | cons x T' =>
        have hx : l'[L.length]? = some x := by rw [HLT.out]; simp
        have hlt : L.length < l'.length := by rw [HLT.out]; simp
        have hx8 := HB8.out x (List.mem_of_getElem? hx)
        obtain ⟨b, off, rfl, hbb, hcl⟩ := HR.out.at_ HB4.out hx
        have d0 : wr.cell? ⟨b, off + L.length, none⟩ = some (.int .u8 x) := by simpa using hcl 0 _ rfl
        have HLT2 := Lib.hid (show l' = (L ++ [x]) ++ T' by rw [HLT.out]; simp)
        have hb1 := HBr.out.size
        have HO2 := Lib.hid (show O ++ [⟨(L.length : Int) + 1, annB, 10 * (L.length : Int), ptF x⟩] = mkO 0 ((L ++ [x]).map ptF) by rw [List.map_append, List.map_singleton, mkO_snoc, HOE.out, List.length_map, Nat.zero_add])
        have HS2 := Lib.hid (show Sm + ptF x = sumL ((L ++ [x]).map ptF) by rw [List.map_append, sumL_append, HSE.out]; simp [sumL])
        have hpx : ptF x = x % 8 + 1 := rfl
        clear hcl hx
        go_wp2_with (at_builtin; refine wpList_app1 Try.ofElem _ rfl (.tmp 38) (.tmp 40) rfl w1.heap.size A3 c3 O rfl ?o1 ⟨(L.length : Int) + 1, annB, 10 * (L.length : Int), ptF x⟩ (wr.heap.size + 1) 1 rfl ?o2 ?o3 ?o4 ?o5 ?_)
        case o1 => exact own_below HO.out (cur_two _ _ _) (Nat.le_refl _)
        case o2 => exact two_new _ _ _
        case o3 => unfold maxLen; omega
        case o4 => omega
        case o5 => simp; omega
        intro g cap w6 ha
        obtain ⟨hb2, ho2⟩ := app1_end HBr.out (fun b hb => (own_range HO.out b hb).1) (cur_two _ _ _) ha
        have HO3 := Lib.hid ho2
        have HB6 := Lib.hid hb2
        clear ha ho2 hb2
        go_wp2_with fail
        go_roundw
        case rel => exact ⟨L ++ [x], T', O ++ [⟨(L.length : Int) + 1, annB, 10 * (L.length : Int), ptF x⟩], Sm + ptF x, some ⟨g, 0, none⟩, cap, HLT2.out, by simp, HO2.out, HS2.out, by rw [hpx], by simp, HO3.out, HB6.out⟩
        case measure => simp [intOf]; omega
      | nil =>
        have hl2 : l' = L := by simpa using HLT.out
        have hnl : ¬ L.length < l'.length := by rw [hl2]; omega
        have HSUS := Lib.hid (show suspS O annB (msL 40) = ((msL 40).take (2 * (Sm / 4)).toNat, 0) by rw [HOE.out, HSE.out]; exact susp_ct (by rw [List.length_map]; exact hLl) HPT.out)
        obtain ⟨A4, c4, e4, hrd4, _⟩ := HO.out.rd ofE_len
        have hcap := own_cap HO.out
        injection e4 with e41 e42 e43
        subst e41 e43
        have HRO := Lib.hid hrd4
        have HSO := Lib.hid (show ∀ z ∈ O, z.p.size ≤ 9223372036854775807 from fun z hz => by
          rw [HOE.out] at hz
          rw [(mkO_mem _ _ z hz).1]
          decide)
        clear hl2 hrd4
        go_wp2_with fail
        have HB40 := Lib.hid HB4.out
        clear HB4 HBr HO
        obtain ⟨wb, hwb⟩ : ∃ wb, wb = wr := ⟨_, rfl⟩
        subst hwb
        go_loopw [8, 43] (MtR wb) (fun _ i _ => 40 - (intOf i).toNat)
        case atStart => exact ⟨0, [], none, 0, by omega, rfl, rfl, rfl, World.ownsRow_nil _ _ _ _, Below.refl _ _⟩
        case round =>
          obtain ⟨k, N, A5, c5, hk, rfl, hN, rfl, hown, hB⟩ := hrel
          have HNm := Lib.hid hN
          have HO5 := Lib.hid hown
          have HB5 := Lib.hid hB
          have HB6 := Lib.hid (cur_step1 HB40.out hB)
          have hNl : N.length = k := by rw [hN, msL_len]
          have HNL := Lib.hid hNl
          have hN40 : N.length ≤ 40 := by omega
          have hb5 := hB.size
          clear hN hown hB hNl
          by_cases hk40 : (k : Int) < 40
          · have HN2 := Lib.hid (show N ++ [100 + (k : Int)] = msL (k + 1) by rw [msL_snoc, HNm.out])
            go_wp2_with (at_builtin; refine wpList_app1 Try.i64Elem _ rfl (.tmp 46) (.tmp 49) rfl wb.heap.size A5 c5 N rfl ?o1 (100 + (k : Int)) wr.heap.size 1 rfl ?o2 ?o3 ?o4 ?o5 ?_)
            case o1 => exact own_below HO5.out (cur_new _ _) (Nat.le_refl _)
            case o2 =>
              have h := heap_alloc_new wr (Obj.cells (inE (100 + (k : Int))).toArray 2)
              simpa [inE] using h
            case o3 => unfold maxLen; omega
            case o4 => omega
            case o5 => first | omega | (simp; omega)
            intro g cap w6 ha
            obtain ⟨hb2, ho2⟩ := app1_end HB5.out (fun b hb => (own_range HO5.out b hb).1) (cur_new _ _) ha
            have HO7 := Lib.hid ho2
            have HB7 := Lib.hid hb2
            clear ha ho2 hb2
            go_wp2_with fail
            go_roundw
            case rel => exact ⟨k + 1, N ++ [100 + (k : Int)], some ⟨g, 0, none⟩, cap, by omega, by simp, HN2.out, by simp, HO7.out, HB7.out⟩
            case measure => simp [intOf]; omega
          · have hk2 : k = 40 := by omega
            obtain ⟨t, ht⟩ : ∃ t, (2 * (Sm / 4)).toNat = t := ⟨_, rfl⟩
            have ht2 : (t : Int) = 2 * (Sm / 4) := by omega
            obtain ⟨R, hR⟩ : ∃ R, R = N.take t := ⟨_, rfl⟩
            have hRl : R.length = t := by rw [hR, List.length_take, HNL.out]; omega
            have HS9 := Lib.hid (show suspS O annB N = (R, 0) by rw [hR, HNm.out, hk2, ← ht]; exact HSUS.out)
            have hRi : (R.length : Int) = 2 * (Sm / 4) := by rw [hRl]; exact ht2
            have hRb : ((R.length : Int) == 2 * (Sm / 4)) = true := by rw [hRi]; simp
            have htd : Sm.tdiv 4 = Sm / 4 := Int.tdiv_eq_ediv_of_nonneg hSr.1
            have hcap5 := own_cap HO5.out
            have hR40 : R.length ≤ 40 := by rw [hRl]; omega
            have hRc : (R.length : Int) ≤ (c5 : Int) := by have := HNL.out; omega
            have hRN : R.length ≤ N.length := by have := HNL.out; omega
            have HEQ := Lib.hid (show (R == N.take R.length) = true by rw [hRl, hR]; simp)
            have HLR := Lib.hid (show (N.take R.length).length = R.length by rw [List.length_take]; omega)
            obtain ⟨A6, c6, e6, hrd6, _⟩ := HO5.out.rd inE_len
            injection e6 with e61 e62 e63
            subst e61 e63
            have HRN := Lib.hid hrd6
            have HRO2 := Lib.hid (HRO.out.to HB5.out)
            have HRI := Lib.hid hRi
            clear hrd6 hR hRl ht ht2 hk2 hRi
            go_wp2_with (first
              | (go_at_call 15; refine (susp_q A3 A5 c3 c5 O annB N R 0 _ (by omega) hcap (by omega) HRO2.out HRN.out HSO.out HS9.out).mono ?_; rintro e w7 ⟨A7, c7, rfl, hrd7, hb7⟩; have HR7 := Lib.hid hrd7; have HB7 := Lib.hid (cur_step1 HB6.out hb7); have HN7 := Lib.hid (HRN.out.to hb7); clear hrd7 hb7)
              | (go_at_call 16; refine (eq_f' _ _ _ _ R.length R (N.take R.length) true _ HLR.out (by omega) (by omega) HR7.out (HN7.out.pre _) HEQ.out).mono ?_; rintro e w8 ⟨rfl, hb8⟩))
            go_ret
            exact ⟨rfl, cur_step1 HB7.out hb8⟩
  · have h9 : l'.length = 8 := by have := HN.out; omega
    go_enter Try.func6, Try.ntmps6
    go_wp2_with (go_at_call 8; refine (awake_any _).mono ?_; rintro e w1 ⟨rfl, hb1⟩; have HB := Lib.hid hb1; clear hb1)
    all_goals go_wp2_with fail
    rw [← h9]
    clear h9
    go_loopw [3, 4, 20] (CtR w1 l') (fun _ _ i _ => l'.length - (intOf i).toNat)
    case atStart => exact ⟨[], l', [], 0, none, 0, rfl, rfl, rfl, rfl, rfl, rfl, World.ownsRow_nil _ _ _ _, Below.refl _ _⟩
    case round =>
      obtain ⟨L, T, O, Sm, A3, c3, hLT, rfl, hO, hS, rfl, rfl, hown, hB⟩ := hrel
      have HLT := Lib.hid hLT
      have HO := Lib.hid hown
      have HOE := Lib.hid hO
      have HSE := Lib.hid hS
      have HBr := Lib.hid hB
      have HB4 := Lib.hid (cur_step1 HB.out hB)
      have hLl : L.length ≤ 8 := by have h : L.length ≤ l'.length := by (rw [hLT]; simp)
                                    omega
      have hOl : O.length = L.length := by rw [hO, mkO_len, List.length_map]
      have hpt : ∀ n ∈ L.map ptF, 1 ≤ n ∧ n ≤ 8 := fun n hn => by
        obtain ⟨x, _, rfl⟩ := List.mem_map.1 hn
        unfold ptF
        omega
      have hSr : 0 ≤ Sm ∧ Sm ≤ 64 := by
        have h := sumL_rng hpt
        rw [List.length_map] at h
        rw [hS]
        omega
      have HPT := Lib.hid hpt
      have HOL := Lib.hid hOl
      have hOl2 : O.length ≤ 8 := by omega
      clear hLT hown hB hO hS hpt hOl
      cases T with
      | cons x T' =>
        have hx : l'[L.length]? = some x := by rw [HLT.out]; simp
        have hlt : L.length < l'.length := by rw [HLT.out]; simp
        have hx8 := HB8.out x (List.mem_of_getElem? hx)
        obtain ⟨b, off, rfl, hbb, hcl⟩ := HR.out.at_ HB4.out hx
        have d0 : wr.cell? ⟨b, off + L.length, none⟩ = some (.int .u8 x) := by simpa using hcl 0 _ rfl
        have HLT2 := Lib.hid (show l' = (L ++ [x]) ++ T' by rw [HLT.out]; simp)
        have hb1 := HBr.out.size
        have HO2 := Lib.hid (show O ++ [⟨(L.length : Int) + 1, annB, 10 * (L.length : Int), ptF x⟩] = mkO 0 ((L ++ [x]).map ptF) by rw [List.map_append, List.map_singleton, mkO_snoc, HOE.out, List.length_map, Nat.zero_add])
        have HS2 := Lib.hid (show Sm + ptF x = sumL ((L ++ [x]).map ptF) by rw [List.map_append, sumL_append, HSE.out]; simp [sumL])
        have hpx : ptF x = x % 8 + 1 := rfl
        clear hcl hx
        go_wp2_with (at_builtin; refine wpList_app1 Try.ofElem _ rfl (.tmp 38) (.tmp 40) rfl w1.heap.size A3 c3 O rfl ?o1 ⟨(L.length : Int) + 1, annB, 10 * (L.length : Int), ptF x⟩ (wr.heap.size + 1) 1 rfl ?o2 ?o3 ?o4 ?o5 ?_)
        case o1 => exact own_below HO.out (cur_two _ _ _) (Nat.le_refl _)
        case o2 => exact two_new _ _ _
        case o3 => unfold maxLen; omega
        case o4 => omega
        case o5 => simp; omega
        intro g cap w6 ha
        obtain ⟨hb2, ho2⟩ := app1_end HBr.out (fun b hb => (own_range HO.out b hb).1) (cur_two _ _ _) ha
        have HO3 := Lib.hid ho2
        have HB6 := Lib.hid hb2
        clear ha ho2 hb2
        go_wp2_with fail
        go_roundw
        case rel => exact ⟨L ++ [x], T', O ++ [⟨(L.length : Int) + 1, annB, 10 * (L.length : Int), ptF x⟩], Sm + ptF x, some ⟨g, 0, none⟩, cap, HLT2.out, by simp, HO2.out, HS2.out, by rw [hpx], by simp, HO3.out, HB6.out⟩
        case measure => simp [intOf]; omega
      | nil =>
        have hl2 : l' = L := by simpa using HLT.out
        have hnl : ¬ L.length < l'.length := by rw [hl2]; omega
        have HSUS := Lib.hid (show suspS O annB (msL 40) = ((msL 40).take (2 * (Sm / 4)).toNat, 0) by rw [HOE.out, HSE.out]; exact susp_ct (by rw [List.length_map]; exact hLl) HPT.out)
        obtain ⟨A4, c4, e4, hrd4, _⟩ := HO.out.rd ofE_len
        have hcap := own_cap HO.out
        injection e4 with e41 e42 e43
        subst e41 e43
        have HRO := Lib.hid hrd4
        have HSO := Lib.hid (show ∀ z ∈ O, z.p.size ≤ 9223372036854775807 from fun z hz => by
          rw [HOE.out] at hz
          rw [(mkO_mem _ _ z hz).1]
          decide)
        clear hl2 hrd4
        go_wp2_with fail
        have HB40 := Lib.hid HB4.out
        clear HB4 HBr HO
        obtain ⟨wb, hwb⟩ : ∃ wb, wb = wr := ⟨_, rfl⟩
        subst hwb
        go_loopw [8, 43] (MtR wb) (fun _ i _ => 40 - (intOf i).toNat)
        case atStart => exact ⟨0, [], none, 0, by omega, rfl, rfl, rfl, World.ownsRow_nil _ _ _ _, Below.refl _ _⟩
        case round =>
          obtain ⟨k, N, A5, c5, hk, rfl, hN, rfl, hown, hB⟩ := hrel
          have HNm := Lib.hid hN
          have HO5 := Lib.hid hown
          have HB5 := Lib.hid hB
          have HB6 := Lib.hid (cur_step1 HB40.out hB)
          have hNl : N.length = k := by rw [hN, msL_len]
          have HNL := Lib.hid hNl
          have hN40 : N.length ≤ 40 := by omega
          have hb5 := hB.size
          clear hN hown hB hNl
          by_cases hk40 : (k : Int) < 40
          · have HN2 := Lib.hid (show N ++ [100 + (k : Int)] = msL (k + 1) by rw [msL_snoc, HNm.out])
            go_wp2_with (at_builtin; refine wpList_app1 Try.i64Elem _ rfl (.tmp 46) (.tmp 49) rfl wb.heap.size A5 c5 N rfl ?o1 (100 + (k : Int)) wr.heap.size 1 rfl ?o2 ?o3 ?o4 ?o5 ?_)
            case o1 => exact own_below HO5.out (cur_new _ _) (Nat.le_refl _)
            case o2 =>
              have h := heap_alloc_new wr (Obj.cells (inE (100 + (k : Int))).toArray 2)
              simpa [inE] using h
            case o3 => unfold maxLen; omega
            case o4 => omega
            case o5 => first | omega | (simp; omega)
            intro g cap w6 ha
            obtain ⟨hb2, ho2⟩ := app1_end HB5.out (fun b hb => (own_range HO5.out b hb).1) (cur_new _ _) ha
            have HO7 := Lib.hid ho2
            have HB7 := Lib.hid hb2
            clear ha ho2 hb2
            go_wp2_with fail
            go_roundw
            case rel => exact ⟨k + 1, N ++ [100 + (k : Int)], some ⟨g, 0, none⟩, cap, by omega, by simp, HN2.out, by simp, HO7.out, HB7.out⟩
            case measure => simp [intOf]; omega
          · have hk2 : k = 40 := by omega
            obtain ⟨t, ht⟩ : ∃ t, (2 * (Sm / 4)).toNat = t := ⟨_, rfl⟩
            have ht2 : (t : Int) = 2 * (Sm / 4) := by omega
            obtain ⟨R, hR⟩ : ∃ R, R = N.take t := ⟨_, rfl⟩
            have hRl : R.length = t := by rw [hR, List.length_take, HNL.out]; omega
            have HS9 := Lib.hid (show suspS O annB N = (R, 0) by rw [hR, HNm.out, hk2, ← ht]; exact HSUS.out)
            have hRi : (R.length : Int) = 2 * (Sm / 4) := by rw [hRl]; exact ht2
            have hRb : ((R.length : Int) == 2 * (Sm / 4)) = true := by rw [hRi]; simp
            have htd : Sm.tdiv 4 = Sm / 4 := Int.tdiv_eq_ediv_of_nonneg hSr.1
            have hcap5 := own_cap HO5.out
            have hR40 : R.length ≤ 40 := by rw [hRl]; omega
            have hRc : (R.length : Int) ≤ (c5 : Int) := by have := HNL.out; omega
            have hRN : R.length ≤ N.length := by have := HNL.out; omega
            have HEQ := Lib.hid (show (R == N.take R.length) = true by rw [hRl, hR]; simp)
            have HLR := Lib.hid (show (N.take R.length).length = R.length by rw [List.length_take]; omega)
            obtain ⟨A6, c6, e6, hrd6, _⟩ := HO5.out.rd inE_len
            injection e6 with e61 e62 e63
            subst e61 e63
            have HRN := Lib.hid hrd6
            have HRO2 := Lib.hid (HRO.out.to HB5.out)
            have HRI := Lib.hid hRi
            clear hrd6 hR hRl ht ht2 hk2 hRi
            go_wp2_with (first
              | (go_at_call 15; refine (susp_q A3 A5 c3 c5 O annB N R 0 _ (by omega) hcap (by omega) HRO2.out HRN.out HSO.out HS9.out).mono ?_; rintro e w7 ⟨A7, c7, rfl, hrd7, hb7⟩; have HR7 := Lib.hid hrd7; have HB7 := Lib.hid (cur_step1 HB6.out hb7); have HN7 := Lib.hid (HRN.out.to hb7); clear hrd7 hb7)
              | (go_at_call 16; refine (eq_f' _ _ _ _ R.length R (N.take R.length) true _ HLR.out (by omega) (by omega) HR7.out (HN7.out.pre _) HEQ.out).mono ?_; rintro e w8 ⟨rfl, hb8⟩))
            go_ret
            exact ⟨rfl, cur_step1 HB7.out hb8⟩
end Go.Proofs.Ytpgamjcaegbdoaa
