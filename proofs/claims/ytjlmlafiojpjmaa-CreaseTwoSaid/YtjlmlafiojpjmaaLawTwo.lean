/-
  CreaseTwo: the walk.
-/
import Derived.Test.YtjlmlafiojpjmaaCrX
import Derived.Test.YtjlmlafiojpjmaaCrP
import Derived.Test.YtjlmlafiojpjmaaCrZ
import Derived.Deep.RegionHeld3
import Derived.BigGuard
set_option linter.unusedSimpArgs false
set_option linter.unusedVariables false
namespace Go.Proofs.Ytjlmlafiojpjmaa
open Go.RowKit
attribute [-simp] Try.isAgg32 Try.sizeOf32 Try.isAgg46 Try.sizeOf46
set_option maxRecDepth 100000
set_option maxHeartbeats 4000000
theorem own_of_blk {w : World} {base g n : Nat} {e : TypeId} {xs : List Value} (h : Blk w g e xs) (hg : base ≤ g) (hn : xs.length = n) (hm : n ≤ maxLen) : w.ownsRow base e 1 (.slice (some ⟨g, 0, none⟩) n n) n xs := by
  refine ⟨by omega, .inr ⟨g, n, xs.toArray, rfl, hg, h, Nat.le_refl _, hm, by simp [hn], ?_⟩⟩
  simp [← hn]
/-- Behind some acts. -/
structure TwS (w wr : World) (G : Nat) (I : Inn) (V : Ls) : Prop where
  inv : Inv I
  blk : Blk wr G 32 (I.cells V)
  own : InnO wr w.heap.size V I
  awa : V.Away G
  hG : w.heap.size ≤ G
  bel : Below w.heap.size w wr
theorem TwS.to {w wr wx : World} {G : Nat} {I : Inn} {V : Ls} (h : TwS w wr G I V) (hb : Below wr.heap.size wr wx) : TwS w wx G I V :=
  ⟨h.inv, h.blk.to hb, h.own.to hb, h.awa, h.hG, cur_step1 h.bel hb⟩
theorem TwS.put {w wr wx : World} {G : Nat} {I J : Inn} {V U : Ls} (h : TwS w wr G I V) (hb : Below wr.heap.size wr wx) (ho : InnO wx wr.heap.size U J) (hj : Inv J) : TwS w (wx.setRow G (J.cells U).toArray) G J U := by
  have hl := h.blk.lt
  have ha := ho.away (g := G) (.inl hl)
  exact ⟨hj, by simpa using blk_row (h.blk.to hb) (J.cells U).toArray, (ho.row ha _).mono h.bel.size, ha, h.hG, row_below (cur_step1 h.bel hb) h.hG _⟩
theorem cells_put {w : World} {G : Nat} {I J : Inn} {V U : Ls} (hb : Blk w G 32 (I.cells V)) (h1 : U.One) :
    Sem.run Try.prog (storeCells ⟨G, 0, none⟩ (J.cells U)) w = .ok () (w.setRow G (J.cells U).toArray) :=
  run_storeCells_blk 32 hb inn_info rfl (Inn.one _ h1)
def TwR (w : World) (G : Nat) (l : List Ac) (i : Value) (wr : World) : Prop := ∃ (k : Nat) (I : Inn) (V : Ls), k ≤ l.length ∧ k ≤ 24 ∧ i = .int .i64 k ∧ TwS w wr G I V
theorem run_mid12 {P : Program} {w : World} {b o n : Nat} {xs : List Value} (hc : w.rangeAt b o xs) (hn : xs.length = n) : Sem.run P (loadCellsFrom ⟨b, o, none⟩ 0 n #[]) w = .ok xs.toArray w := by
  subst hn
  have := run_loadCells_list (P := P) w ⟨b, o, none⟩ xs (fun j v hv => by rw [Addr.add_mid]; exact hc j v hv)
  simpa [loadCells] using this
def BaR (J : Inn) (w1 : World) (bv ov iv : Value) (wr : World) : Prop := ∃ (j g c : Nat), j ≤ J.b.length ∧ iv = .int .i64 j ∧ bv = .slice (some ⟨g, 0, none⟩) (batL 0 (J.b.take j)).length c ∧ ov = .int .i64 ((cnt 2 (J.b.take j) : Nat) : Int) ∧ OwnL inE 1 3 w1.heap.size wr (.slice (some ⟨g, 0, none⟩) (batL 0 (J.b.take j)).length c) (batL 0 (J.b.take j)) ∧ Below w1.heap.size w1 wr
def plcT (s o : Int) : Nat → List Int
  | 0 => []
  | 1 => if s ≠ 0 then [s] else []
  | _ => plcL s o
theorem plcT_next (s o : Int) (j : Nat) (x : Int) (hj : j < 2) (hx : x = if j = 0 then s else o) : plcT s o (j + 1) = plcT s o j ++ (if x ≠ 0 then [x] else []) := by
  match j, hj with
  | 0, _ => subst hx; simp [plcT]
  | 1, _ => subst hx; simp [plcT, plcL]
def PlR (s o : Int) (q : Nat) (w1 : World) (pv iv : Value) (wr : World) : Prop := ∃ (j g c : Nat), j ≤ 2 ∧ iv = .int .i64 j ∧ pv = .slice (some ⟨g, 0, none⟩) (plcT s o j).length c ∧ OwnL inE 1 3 w1.heap.size wr (.slice (some ⟨g, 0, none⟩) (plcT s o j).length c) (plcT s o j) ∧ Below w1.heap.size w1 wr ∧ g ≠ q ∧ q < wr.heap.size ∧ wr.cell? ⟨q, 0, none⟩ = some (.int .i64 s) ∧ wr.cell? ⟨q, 1, none⟩ = some (.int .i64 o)
theorem own_lst {w : World} {base : Nat} {v : Value} {L : List Int} (h : OwnL inE 1 3 base w v L) : Lst w v (inC L) := by
  unfold OwnL at h
  rw [flat_inE] at h
  refine Lst.own (base := base) (e := 3) ?_
  rw [inC_len]; exact h
theorem cntH_is : ∀ l, cntH l = cnt 3 l
  | [] => rfl
  | y :: l => by show (if y = 3 then 1 else 0) + cntH l = (if y = 3 then 1 else 0) + cnt 3 l; rw [cntH_is l]
theorem own_nil {w : World} : OwnL inE 1 3 w.heap.size (w.alloc (.cells #[] 3)) (.slice (some ⟨w.heap.size, 0, none⟩) ([] : List Int).length 0) [] := World.ownsRow_made w #[] 0 (Nat.le_refl _) (Nat.zero_le _) (by simp)
theorem law_two (side : Int) (A : Option Addr) (c : Nat) (l : List Ac) (w : World) (hsd : 0 ≤ side ∧ side ≤ 255) (hl : l.length ≤ 9223372036854775807) (hk : ∀ a ∈ l, 0 ≤ a.kind ∧ a.kind ≤ 255) (hr : Rd acC 16 w w.heap.size A l) :
    Calls Try.prog 5 #[.int .u8 side, .slice A l.length c] w fun e w' => e = .returned (.bool true) ∧ Below w.heap.size w w' := by
  have HR := Lib.hid hr
  have HK := Lib.hid hk
  obtain ⟨n, hn⟩ : ∃ n : Nat, side % 10 + 2 = n := ⟨(side % 10 + 2).toNat, by omega⟩
  have hn2 : 2 ≤ n ∧ n ≤ 11 := by omega
  have HN := Lib.hid (inv_new n hn2)
  clear hr hk
  go_enter Try.func5, Try.ntmps5
  go_wp2_with fail
  refine (awake_any _).mono ?_
  rintro e w1 ⟨rfl, hb1⟩
  have HB1 := Lib.hid hb1
  clear hb1
  go_upto_region 4 with (first
    | (refine wpList_makeN _ rfl _ _ _ rfl 50 (.int .u8 0) 1 (by kernel_rfl) (by kernel_rfl) (by kernel_rfl) .i64 .i64 n (by rfl) (by rfl) (by omega) (by unfold maxLen; omega) ?_; intro w2 hq hb; have HQ := Lib.hid hq; have HBQ := Lib.hid hb; clear hq hb)
    | (refine wpList_storeNew rfl _ _ 32 rfl _ ((newI n).cells (sideV w1.heap.size n)).toArray inn_info (by rfl) (by rfl) rfl (Inn.one _ (sideOne _ _)) ?_))
  rename World => w2
  obtain ⟨G, hG⟩ : ∃ y, w2.heap.size = y := ⟨_, rfl⟩
  obtain ⟨w3, hw3⟩ : ∃ y, w2.alloc (.cells ((newI n).cells (sideV w1.heap.size n)).toArray 32) = y := ⟨_, rfl⟩
  have hs : TwS w w3 G (newI n) (sideV w1.heap.size n) := by
    have h1 := HQ.out.lt
    have h2 := HB1.out.size
    have hb := cur_new w2 (.cells ((newI n).cells (sideV w1.heap.size n)).toArray 32)
    rw [hw3] at hb
    have hbl : Blk w3 G 32 ((newI n).cells (sideV w1.heap.size n)) := by rw [← hw3, ← hG]; exact Blk.new _ _ _
    have hq3 := HQ.out.to hb
    have hst : stC (List.replicate n 0) = fn n fun _ => Value.int .u8 0 := by unfold stC; rw [List.map_replicate]; exact fn_rep n _
    have hnil : ∀ e, w3.ownsRow w.heap.size e 1 (.slice none 0 0) 0 [] := fun e => World.ownsRow_nil _ _ _ _
    refine ⟨HN.out, hbl, ⟨?_, hnil _, hnil _, hnil _, hnil _, ?_⟩, ⟨?_, ?_, ?_, ?_, ?_⟩, by omega, cur_step1 (cur_step1 HB1.out HBQ.out) hb⟩
    · show w3.ownsRow w.heap.size 50 1 (.slice (some ⟨w1.heap.size, 0, none⟩) n n) (stC (List.replicate n 0)).length (stC (List.replicate n 0))
      rw [stC_len, List.length_replicate]
      exact own_of_blk (by rw [hst]; exact hq3) h2 (by rw [stC_len, List.length_replicate]) (by unfold maxLen; omega)
    · intro k hk
      exact ⟨fun e => (by cases e), fun e => (by cases e), fun e => (by cases e), fun e => (by cases e)⟩
    · intro k hk
      have hk2 : w1.heap.size = k := by simpa [sideV, Value.ownBlock] using hk
      omega
    all_goals (intro k hk; cases hk)
  have HS := Lib.hid hs
  rw [hG, hw3]
  clear hs hG hw3 HQ HBQ HB1 HN hn hsd
  go_wp2_with fail
  go_loopw [6] (TwR w G l) (fun i _ => 24 - (intOf i).toNat)
  case atStart => exact ⟨0, _, _, by omega, by omega, rfl, HS.out⟩
  case round =>
    obtain ⟨k, I, V, hk, hk24, rfl, hs⟩ := hrel
    have HS := Lib.hid hs
    clear hs
    by_cases hkl : k < l.length
    · by_cases hk2 : k < 24
      · obtain ⟨a, ha⟩ : ∃ a, l[k]? = some a := ⟨_, List.getElem?_eq_getElem hkl⟩
        have HKA := Lib.hid (HK.out a (List.mem_of_getElem? ha))
        obtain ⟨b, off, rfl, hbb, hcl⟩ := HR.out.at_ HS.out.bel ha
        have hbl : b < wr.heap.size := by have := HS.out.bel.size; omega
        obtain ⟨N, hN⟩ : ∃ N : Nat, 28 = N := ⟨_, rfl⟩
        obtain ⟨M, hM⟩ : ∃ M : Nat, 16 = M := ⟨_, rfl⟩
        have hA : ∀ w, Sem.run Try.prog (isAgg 32) w = .ok true w := fun w => Try.isAgg32 w
        have hZ : ∀ w, Sem.run Try.prog (sizeOf 32) w = .ok N w := fun w => by rw [← hN]; exact Try.sizeOf32 w
        have hA2 : ∀ w, Sem.run Try.prog (isAgg 46) w = .ok true w := fun w => Try.isAgg46 w
        have hZ2 : ∀ w, Sem.run Try.prog (sizeOf 46) w = .ok M w := fun w => by rw [← hM]; exact Try.sizeOf46 w
        have hload : Sem.run Try.prog (loadCellsFrom ⟨G, 0, none⟩ 0 N #[]) wr.drew = .ok (I.cells V).toArray wr.drew := run_loadCells_blk (w := wr.drew) HS.out.blk hN
        have hload2 : Sem.run Try.prog (loadCellsFrom ⟨b, off + k * M, none⟩ 0 M #[]) wr.drew = .ok (acC a).toArray wr.drew := run_mid12 (w := wr.drew) (fun j v hv => by rw [← hM]; exact hcl j v hv) hM
        have p0 : wr.drew.cell? ⟨b, off + k * M, none⟩ = some (.int .u8 a.kind) := by rw [← hM]; exact hcl 0 _ rfl
        have HN := Lib.hid hN
        have HM := Lib.hid hM
        clear hcl ha hN hM hbb
        go_upto_region 7 with (fail)
        go_cut [] from 22 to 40 (fun wx => ∃ J U, TwS w wx G J U)
        case first =>
          go_region_with (go_at_call 13; refine (do_p I V a _ HS.out.inv.few (HS.out.own.rd.to ((Below.refl _ wr).drew)) HKA.out).mono ?_; rintro e w7 ⟨U, rfl, ho, hbx⟩; have HO := Lib.hid ho; have HBX := Lib.hid (show Below wr.heap.size wr w7 from ((Below.refl wr.heap.size wr).drew).trans hbx); have hlen : (((doS I a).1.cells U).length = N) = True := (by rw [← HN.out]; exact eq_true rfl); have hstore : Sem.run Try.prog (storeCells ⟨G, 0, none⟩ ((doS I a).1.cells U)) w7 = .ok () (w7.setRow G ((doS I a).1.cells U).toArray) := cells_put (HS.out.blk.to HBX.out) ho.ones; clear ho hbx)
          all_goals
            have HJ := Lib.hid (HS.out.put HBX.out HO.out (inv_do HS.out.inv a))
            clear hload hload2 p0 hlen hstore hA hZ hA2 hZ2 HN HM HO HBX HKA
            go_wp2_with fail
            go_meet
            case rel => exact ⟨_, _, HJ.out⟩
        case rest =>
        obtain ⟨J, U, hj⟩ := hcut
        have HJ := Lib.hid hj
        clear hload hload2 p0 hA hZ hA2 hZ2 HN HM HKA hj HS
        rename World => w8
        obtain ⟨bb, bc, hbV, hbc, hbb1, hbb2⟩ := HJ.out.own.blk (by have := HJ.out.inv.n; omega)
        obtain ⟨nn, hnn⟩ : ∃ nn, J.b.length = nn := ⟨_, rfl⟩
        have hnn1 : nn ≤ 11 := by rw [← hnn]; exact HJ.out.inv.n.2
        have HBV := Lib.hid hbV
        have HNN := Lib.hid hnn
        rw [hnn] at hbV hbc
        obtain ⟨w9, hw9⟩ : ∃ y, w8.alloc (.cells #[] 3) = y := ⟨_, rfl⟩
        have S9 := Lib.hid hw9
        have HB9 := Lib.hid (show Below w8.heap.size w8 w9 by rw [← hw9]; exact cur_new _ _)
        have HO9 := Lib.hid (show OwnL inE 1 3 w8.heap.size w9 (.slice (some ⟨w8.heap.size, 0, none⟩) ([] : List Int).length 0) [] by rw [← hw9]; exact own_nil)
        have c14 : w9.cell? ⟨G, 14, none⟩ = some (.slice (some ⟨bb, 0, none⟩) nn bc) := by rw [← hbV]; exact (HJ.out.blk.to HB9.out).cell 14
        clear hbV hnn hw9
        go_upto_block 8 with (rw [S9.out])
        go_loopw [7, 8, 45] (BaR J w8) (fun _ _ i _ => nn - (intOf i).toNat)
        case atStart => exact ⟨0, _, 0, by omega, rfl, rfl, rfl, HO9.out, HB9.out⟩
        case round =>
          obtain ⟨j, g2, c2, hj, rfl, rfl, rfl, ho, hb⟩ := hrel
          have HO := Lib.hid ho
          have HB := Lib.hid hb
          clear ho hb c14
          rename World => wa
          obtain ⟨L, hL⟩ : ∃ L, batL 0 (J.b.take j) = L := ⟨_, rfl⟩
          obtain ⟨m, hm⟩ : ∃ m, cnt 2 (J.b.take j) = m := ⟨_, rfl⟩
          have hLl : L.length ≤ 11 := by
            rw [← hL, batL_len]
            have h1 := cnt_len 1 (J.b.take j)
            have h2 := HNN.out
            rw [List.length_take] at h1
            omega
          have hml : m ≤ 11 := by
            rw [← hm]
            have h1 := cnt_len 2 (J.b.take j)
            have h2 := HNN.out
            rw [List.length_take] at h1
            omega
          have HL := Lib.hid hL
          have HM := Lib.hid hm
          rw [hL] at HO
          rw [hL, hm]
          have hj2 : j ≤ nn := by rw [← HNN.out]; exact hj
          clear hL hm hj
          by_cases hjn : j < nn
          · have hjb : j < J.b.length := by rw [HNN.out]; exact hjn
            obtain ⟨x, hx⟩ : ∃ x, J.b[j]? = some x := ⟨_, List.getElem?_eq_getElem hjb⟩
            have d1 : wa.cell? ⟨bb, j, none⟩ = some (.int .u8 x) := by
              have h1 := HJ.out.own.to HB.out
              have h2 := h1.b
              rw [HBV.out, stC_len] at h2
              exact (h2.cellAt j (by omega)).trans (stC_at hx)
            have HN1 := Lib.hid (show batL 0 (J.b.take (j + 1)) = L ++ (if x = 1 then [(j : Int) + 1] else []) by
              rw [List.take_add_one, hx]
              show batL 0 (J.b.take j ++ [x]) = _
              rw [batL_snoc, HL.out, List.length_take, show 0 + min j J.b.length = j by omega])
            have HN2 := Lib.hid (show cnt 2 (J.b.take (j + 1)) = m + (if x = 2 then 1 else 0) by
              rw [List.take_add_one, hx]
              show cnt 2 (J.b.take j ++ [x]) = _
              rw [cnt_append, HM.out]
              rfl)
            have hjc : j < bc := by omega
            clear hx
            by_cases h1 : x = 1
            · subst h1
              have HE1 := Lib.hid (show batL 0 (J.b.take (j + 1)) = L ++ [(j : Int) + 1] from HN1.out)
              have HE2 := Lib.hid (show cnt 2 (J.b.take (j + 1)) = m from HN2.out)
              go_wp2_with (refine wpList_app1 Try.intElem _ rfl _ _ rfl w8.heap.size (some ⟨g2, 0, none⟩) c2 L rfl ?o1 ((j : Int) + 1) wa.heap.size 1 rfl ?o2 ?o3 ?o4 ?o5 ?_)
              case o1 => exact World.ownsRow.alloc HO.out _
              case o2 => first | exact heap_alloc_new _ _ | exact (Array.getElem?_eq_some_iff.1 (heap_alloc_new _ _)).2
              case o3 => unfold maxLen; omega
              case o4 => omega
              case o5 => have := HB.out.size; first | omega | (simp; omega)
              intro g cap wz hap
              have HA := Lib.hid hap.own
              have HBZ := Lib.hid (app1_end (f := (j : Int) + 1) (enc := inE) (l := L) HB.out (fun k hk => (own_range HO.out k hk).1) (cur_new wa _) hap).1
              clear hap
              go_wp2_with (fail)
              go_roundw
              case rel => exact ⟨j + 1, g, cap, hjb, by simp, by rw [HE1.out, List.length_append]; rfl, by rw [HE2.out], by rw [HE1.out, List.length_append]; exact own_snoc HA.out, HBZ.out⟩
              case measure => simp [intOf]; omega
            · have g1 : (x == 1) = false := by simpa using h1
              have HE1 := Lib.hid (show batL 0 (J.b.take (j + 1)) = L by rw [HN1.out, if_neg h1, List.append_nil])
              clear h1
              by_cases h2 : x = 2
              · subst h2
                have HE2 := Lib.hid (show cnt 2 (J.b.take (j + 1)) = m + 1 from HN2.out)
                go_wp2_with (fail)
                go_roundw
                case rel => exact ⟨j + 1, g2, c2, hjb, by simp, by rw [HE1.out], by rw [HE2.out]; simp, by rw [HE1.out]; exact HO.out, HB.out⟩
                case measure => simp [intOf]; omega
              · have g3 : (x == 2) = false := by simpa using h2
                have HE2 := Lib.hid (show cnt 2 (J.b.take (j + 1)) = m by rw [HN2.out, if_neg h2]; rfl)
                clear h2
                go_wp2_with (fail)
                go_roundw
                case rel => exact ⟨j + 1, g2, c2, hjb, by simp, by rw [HE1.out], by rw [HE2.out], by rw [HE1.out]; exact HO.out, HB.out⟩
                case measure => simp [intOf]; omega
          · have hjb : j = J.b.length := by rw [HNN.out]; omega
            have HL2 := Lib.hid (show batL 0 J.b = L by rw [← HL.out, hjb, List.take_length])
            have HM2 := Lib.hid (show cnt 2 J.b = m by rw [← HM.out, hjb, List.take_length])
            have HJA := Lib.hid (HJ.out.to HB.out)
            clear hjb HL HM
            go_upto_region 18 with (fail)
            obtain ⟨wb, hwb⟩ : ∃ y, wa.alloc (.cells #[] 3) = y := ⟨_, rfl⟩
            have SB := Lib.hid hwb
            have HBB := Lib.hid (show Below wa.heap.size wa wb by rw [← hwb]; exact cur_new _ _)
            have HOB := Lib.hid (show OwnL inE 1 3 wa.heap.size wb (.slice (some ⟨wa.heap.size, 0, none⟩) ([] : List Int).length 0) [] by rw [← hwb]; exact own_nil)
            have hab : wa.heap.size < wb.heap.size := by rw [← hwb]; simp
            have HJB := Lib.hid (HJA.out.to HBB.out)
            clear hwb
            obtain ⟨s0, hs0⟩ : ∃ y, J.st = y := ⟨_, rfl⟩
            obtain ⟨o0, ho0⟩ : ∃ y, J.ot = y := ⟨_, rfl⟩
            have c12 : wb.cell? ⟨G, 12, none⟩ = some (.int .i64 s0) := by rw [← hs0]; exact HJB.out.blk.cell 12
            have c13 : wb.cell? ⟨G, 13, none⟩ = some (.int .i64 o0) := by rw [← ho0]; exact HJB.out.blk.cell 13
            have HSO := Lib.hid (And.intro hs0 ho0)
            obtain ⟨wc, hwc⟩ : ∃ y, wb.alloc (.cells #[.int .i64 s0, .int .i64 o0] 3) = y := ⟨_, rfl⟩
            have SC := Lib.hid hwc
            have HBC := Lib.hid (show Below wb.heap.size wb wc by rw [← hwc]; exact cur_new _ _)
            have HQC := Lib.hid (show Blk wc wb.heap.size 3 [.int .i64 s0, .int .i64 o0] by rw [← hwc]; exact Blk.new _ _ _)
            obtain ⟨q, hq⟩ : ∃ y, wb.heap.size = y := ⟨_, rfl⟩
            have HQ := Lib.hid hq
            clear hwc hs0 ho0
            go_upto_block 10 with (first | rw [SB.out] | rw [SC.out])
            rw [hq] at HQC hab
            clear hq c12 c13
            go_loopw [11, 70] (PlR s0 o0 q wa) (fun _ i _ => 2 - (intOf i).toNat)
            case atStart => exact ⟨0, _, 0, by omega, rfl, rfl, own_below HOB.out HBC.out (Nat.le_refl _), cur_step1 HBB.out HBC.out, by omega, HQC.out.lt, HQC.out.cell 0, HQC.out.cell 1⟩
            case round =>
              obtain ⟨j3, g3, c3, hj3, rfl, rfl, ho, hb, hgq, hql, e0, e1⟩ := hrel
              rename World => wd
              have HOD := Lib.hid ho
              have HBD := Lib.hid hb
              clear ho hb
              obtain ⟨T, hT⟩ : ∃ T, plcT s0 o0 j3 = T := ⟨_, rfl⟩
              have HT := Lib.hid hT
              have hTl : T.length ≤ 2 := by
                rw [← hT]
                match j3, hj3 with
                | 0, _ => simp [plcT]
                | 1, _ => show (if s0 ≠ 0 then [s0] else []).length ≤ 2; split <;> simp
                | 2, _ => show (plcL s0 o0).length ≤ 2; unfold plcL; rw [List.length_append]; split <;> split <;> simp
              rw [hT] at HOD ⊢
              clear hT
              by_cases hj4 : j3 < 2
              · obtain ⟨x, hx⟩ : ∃ x, x = if j3 = 0 then s0 else o0 := ⟨_, rfl⟩
                have d1 : wd.cell? ⟨q, j3, none⟩ = some (.int .i64 x) := by
                  match j3, hj4 with
                  | 0, _ => subst hx; exact e0
                  | 1, _ => subst hx; exact e1
                have HNT := Lib.hid (show plcT s0 o0 (j3 + 1) = T ++ (if x ≠ 0 then [x] else []) by rw [plcT_next s0 o0 j3 x hj4 hx, HT.out])
                have HE0 := Lib.hid e0
                have HE1 := Lib.hid e1
                clear hx e0 e1
                by_cases hx0 : x = 0
                · have g0 : (x != 0) = false := by simpa using hx0
                  have HN3 := Lib.hid (show plcT s0 o0 (j3 + 1) = T by rw [HNT.out, if_neg (by simpa using hx0), List.append_nil])
                  clear hx0
                  go_wp2_with (fail)
                  go_roundw
                  case rel => exact ⟨j3 + 1, g3, c3, by omega, by simp, by rw [HN3.out], by rw [HN3.out]; exact HOD.out, HBD.out, hgq, hql, HE0.out, HE1.out⟩
                  case measure => simp [intOf]; omega
                · have g0 : (x != 0) = true := by simpa using hx0
                  have HN3 := Lib.hid (show plcT s0 o0 (j3 + 1) = T ++ [x] by rw [HNT.out, if_pos hx0])
                  clear hx0
                  go_wp2_with (refine wpList_app1 Try.intElem _ rfl _ _ rfl wa.heap.size (some ⟨g3, 0, none⟩) c3 T rfl ?o1 x wd.heap.size 1 rfl ?o2 ?o3 ?o4 ?o5 ?_)
                  case o1 => exact World.ownsRow.alloc HOD.out _
                  case o2 => first | exact heap_alloc_new _ _ | exact (Array.getElem?_eq_some_iff.1 (heap_alloc_new _ _)).2
                  case o3 => unfold maxLen; omega
                  case o4 => omega
                  case o5 => have := HBD.out.size; first | omega | (simp; omega)
                  intro g cap wz hap
                  have HA := Lib.hid hap.own
                  have HBZ := Lib.hid (app1_end (f := x) (enc := inE) (l := T) HBD.out (fun k hk => (own_range HOD.out k hk).1) (cur_new wd _) hap).1
                  have hne : (Value.slice (some ⟨g3, 0, none⟩) T.length c3).ownBlock ≠ some q := fun e => hgq (by injection e)
                  have hq2 : q < (wd.alloc (.cells (inE x).toArray 3)).heap.size := by simp; omega
                  have y0 := hap.far (o := 0) hq2 hne
                  have y1 := hap.far (o := 1) hq2 hne
                  have z0 := (cur_new wd (.cells (inE x).toArray 3)).cell (p := ⟨q, 0, none⟩) hql
                  have z1 := (cur_new wd (.cells (inE x).toArray 3)).cell (p := ⟨q, 1, none⟩) hql
                  have HY0 := Lib.hid ((y0.trans z0).trans HE0.out)
                  have HY1 := Lib.hid ((y1.trans z1).trans HE1.out)
                  have hgn : g ≠ q := by
                    rcases hap.at_ with e | e
                    · have e2 : g3 = g := by simpa [Value.ownBlock] using e
                      omega
                    · rw [e]; exact Nat.ne_of_gt hq2
                  have hqz : q < wz.heap.size := Nat.lt_of_lt_of_le hq2 hap.grown.size
                  clear hap y0 y1 z0 z1 hq2
                  go_wp2_with (fail)
                  go_roundw
                  case rel => exact ⟨j3 + 1, g, cap, by omega, by simp, by rw [HN3.out, List.length_append]; rfl, by rw [HN3.out, List.length_append]; exact own_snoc HA.out, HBZ.out, hgn, hqz, HY0.out, HY1.out⟩
                  case measure => simp [intOf]; omega
              · have hj5 : j3 = 2 := by omega
                have HPL := Lib.hid (show sortL T = L by
                  have h1 := two_places HJ.out.inv
                  rw [HSO.out.1, HSO.out.2, HL2.out] at h1
                  rw [← HT.out, hj5]; exact h1)
                have HTL := Lib.hid (show T.length = L.length by rw [← HPL.out, sortL_len])
                have HTP := Lib.hid (show T = plcL J.st J.ot by rw [← HT.out, hj5, HSO.out.1, HSO.out.2]; rfl)
                clear hj5 e0 e1 hgq hql hj3 HT
                go_wp2_with (fail)
                refine (sort_o wd wa.heap.size g3 c3 T HOD.out (by omega)).mono ?_
                rintro e we ⟨rfl, hoe, hge⟩
                have HBE := Lib.hid (HBD.out.grown hge HBD.out.size (fun k hk => (own_range HOD.out k hk).1))
                rw [HPL.out] at hoe
                have HOE := Lib.hid (show Lst we (.slice (some ⟨g3, 0, none⟩) T.length c3) (inC L) by
                  have h1 := own_lst (v := .slice (some ⟨g3, 0, none⟩) T.length c3) (L := L) (base := wa.heap.size) (w := we) (by unfold OwnL at hoe ⊢; exact hoe)
                  exact h1)
                have HBF := Lib.hid (own_lst (own_below HO.out HBE.out (Nat.le_refl _)))
                have HJE := Lib.hid (HJA.out.to HBE.out)
                clear hoe hge HOD
                go_wp2_with (fail)
                refine (equal_t L _ _ we (by omega) HBF.out HOE.out).mono ?_
                rintro e wf ⟨rfl, hbf⟩
                have HJF := Lib.hid (HJE.out.to hbf)
                clear hbf
                have c4 : wf.cell? ⟨G, 4, none⟩ = some (.int .i64 m) := by
                  have h1 : wf.cell? ⟨G, 4, none⟩ = some (.int .i64 J.wk) := HJF.out.blk.cell 4
                  rw [h1, HJ.out.inv.wk, HM2.out]
                go_wp2_with (refine wpList_load_g (by rfl) 32 _ rfl G (by rfl) 32 (J.cells U).toArray (0, 0) _ HJF.out.blk Try.underlying32 rfl inn_info ?_)
                obtain ⟨v, hv⟩ : ∃ v, vacantS J = v := ⟨_, rfl⟩
                have HV := Lib.hid hv
                clear hv
                refine (vacant_f J U v wf HJ.out.inv.few HJF.out.own.rd HV.out).mono ?_
                rintro e wg ⟨rfl, hbg⟩
                have HJG := Lib.hid (HJF.out.to hbg)
                clear hbg c4
                have HVV := Lib.hid (two_vacant HJ.out.inv)
                by_cases hT2 : T.length < 2
                · go_wp2_with (refine wpList_load_g (by rfl) 32 _ rfl G (by rfl) 32 (J.cells U).toArray (0, 0) _ HJG.out.blk Try.underlying32 rfl inn_info ?_)
                  refine (hurt_p J U wg HJ.out.inv.few HJG.out.own.rd).mono ?_
                  rintro e wh ⟨rfl, hbh⟩
                  have HJH := Lib.hid (HJG.out.to hbh)
                  clear hbh
                  obtain ⟨h, hh⟩ : ∃ h, cntH J.b = h := ⟨_, rfl⟩
                  have hhl : h ≤ 11 := by rw [← hh]; have h1 := cntH_len J.b; have h2 := HJ.out.inv.n; omega
                  have HVX := Lib.hid (show v = decide (0 < L.length + m + h) by
                    rw [← HV.out, HVV.out, ← HTP.out, HL2.out, HM2.out, ← cntH_is, hh]
                    simp [hT2])
                  rw [hh]
                  clear hh
                  by_cases hz : 0 < L.length + m + h
                  · have hv : v = true := by rw [HVX.out]; simpa using hz
                    subst hv
                    have gz : decide ((0 : Int) < (L.length : Int) + m + h) = true := by simp; omega
                    have gz2 : (0 : Int) < (L.length : Int) + m + h := by omega
                    clear hz
                    go_wp2_with (fail)
                    go_roundw
                    case rel => exact ⟨k + 1, J, U, hkl, by omega, by simp, HJH.out⟩
                    case measure => simp [intOf]; omega
                  · have hv : v = false := by rw [HVX.out]; simpa using hz
                    subst hv
                    have gz : decide ((0 : Int) < (L.length : Int) + m + h) = false := by simp; omega
                    have gz2 : ¬ (0 : Int) < (L.length : Int) + m + h := by omega
                    clear hz
                    go_wp2_with (fail)
                    go_roundw
                    case rel => exact ⟨k + 1, J, U, hkl, by omega, by simp, HJH.out⟩
                    case measure => simp [intOf]; omega
                · have hv : v = false := by rw [← HV.out, HVV.out, ← HTP.out]; simp [hT2]
                  subst hv
                  go_wp2_with (fail)
                  go_roundw
                  case rel => exact ⟨k + 1, J, U, hkl, by omega, by simp, HJG.out⟩
                  case measure => simp [intOf]; omega
      · go_wp2_with (fail)
        go_ret
        exact ⟨rfl, HS.out.bel⟩
    · go_wp2_with (fail)
      go_ret
      exact ⟨rfl, HS.out.bel⟩
end Go.Proofs.Ytjlmlafiojpjmaa
