/-
  Chapter 12: the law CreaseEnds: the walk.
-/
import Derived.Test.YtjlmlafiojpjmaaOpen12
import Derived.Test.YtjlmlafiojpjmaaRan12
import Derived.Test.YtjlmlafiojpjmaaCh12
import Derived.Test.YtjlmlafiojpjmaaAwk12
import Derived.Deep.RegionHeld3
namespace Go.Proofs.Ytjlmlafiojpjmaa
open Go.RowKit
attribute [-simp] Try.isAgg32 Try.sizeOf32

def u8E (x : Int) : List Value := [.int .u8 x]
def stP (m : Int) : Int := if m % 2 = 0 then 1 else 2
def otP (m : Int) : Int := if m % 2 = 0 then 2 else 1
theorem stP_step (m x : Int) : if x % 2 = 0 then stP (m + x) = stP m ∧ otP (m + x) = otP m else stP (m + x) = otP m ∧ otP (m + x) = stP m := by
  unfold stP otP
  split <;> split <;> split <;> first | omega | (constructor <;> rfl) | (simp <;> omega)
/-- Behind some deliveries: m runs. -/
structure InM (w wr : World) (G : Nat) (m : Int) (A' : Option Addr) (c' : Nat) : Prop where
  below : Below w.heap.size w wr
  blk : Blk wr G 32 (innL zeroR 0 (stP m) (otP m) (.slice A' 4 c'))
  own : wr.ownsRow 0 50 1 (.slice A' 4 c') 4 sts
  ne : ∀ k, (Value.slice A' 4 c').ownBlock = some k → k ≠ G
theorem InM.lst {w wr : World} {G : Nat} {m : Int} {A' : Option Addr} {c' : Nat} (h : InM w wr G m A' c') : Lst wr (.slice A' 4 c') sts := Lst.own (xs := sts) h.own
theorem inm_put {w wr w7 : World} {G : Nat} {m m' : Int} {A' A2 : Option Addr} {c' c2 : Nat} (h : InM w wr G m A' c') (hbw : Below wr.heap.size wr w7) (ho : w7.ownsRow wr.heap.size 50 1 (.slice A2 4 c2) 4 sts) (hGw : w.heap.size ≤ G) :
    InM w (w7.setRow G (innL zeroR 0 (stP m') (otP m') (.slice A2 4 c2)).toArray) G m' A2 c2 := by
  have hG := h.blk.lt
  have hne : ∀ k, (Value.slice A2 4 c2).ownBlock = some k → k ≠ G := fun k hk => by have := own_range ho k hk; omega
  exact ⟨row_below (cur_step1 h.below hbw) hGw _, by simpa using blk_row (h.blk.to hbw) _, own_row (own_mono ho (Nat.zero_le _)) hne _, hne⟩
theorem inn_put {w : World} {G : Nat} {r r' : Rst} {wk st ot wk' st' ot' : Int} {B : Value} {A : Option Addr} {n c : Nat} (hb : Blk w G 32 (innL r wk st ot B)) :
    Sem.run Try.prog (storeCells ⟨G, 0, none⟩ (innL r' wk' st' ot' (.slice A n c))) w = .ok () (w.setRow G (innL r' wk' st' ot' (.slice A n c)).toArray) :=
  run_storeCells_blk 32 hb inn_info rfl (inn_one _ _ _ _ _ _ _)
def EI (w : World) (G : Nat) (q : Int) (l : List Int) (nv i : Value) (wr : World) : Prop :=
  ∃ (k : Nat) (m : Int) (A' : Option Addr) (c' : Nat), k ≤ l.length ∧ k ≤ 16 ∧ i = .int .i64 k ∧ nv = .int .i64 (q + m) ∧ 0 ≤ m ∧ m ≤ 7 * k ∧ InM w wr G m A' c'
def EC (w : World) (G : Nat) (q m : Int) (i : Value) (wr : World) : Prop :=
  ∃ (j : Nat) (A' : Option Addr) (c' : Nat), (j : Int) ≤ q ∧ i = .int .i64 j ∧ InM w wr G (m + j) A' c'
theorem stP_one (m : Int) : stP (m + 1) = otP m ∧ otP (m + 1) = stP m := by
  have := stP_step m 1
  simpa using this
set_option maxRecDepth 100000 in
set_option maxHeartbeats 1000000 in
theorem law_ends (A : Option Addr) (c : Nat) (l : List Int) (ov : Int) (w : World) (hl : l.length ≤ 9223372036854775807) (hov : 0 ≤ ov ∧ ov ≤ 255) (hb : ∀ x ∈ l, 0 ≤ x ∧ x ≤ 255) (hr : Rd u8E 1 w w.heap.size A l) :
    Calls Try.prog 3 #[.slice A l.length c, .int .u8 ov] w fun e w' => e = .returned (.bool true) ∧ Below w.heap.size w w' := by
  go_enter Try.func3, Try.ntmps3
  go_wp2_with fail
  refine (awake_any _).mono ?_
  rintro e w1 ⟨rfl, hb1⟩
  go_wp2_with fail
  refine (side_f _).mono ?_
  rintro e w2 ⟨g, rfl, hq, hb2⟩
  have hq0 : Lst w2 (.slice (some ⟨g, 0, none⟩) 4 4) (stC [0, 0, 0, 0]) := .inr ⟨g, 0, 4, rfl, by decide, hq.lt, fun j u hu => by rw [Nat.zero_add, hq.cell]; exact hu⟩
  go_wp2_with fail
  refine (open_ok zeroR 0 0 0 1 2 (some ⟨g, 0, none⟩) 4 4 [0, 0, 0, 0] (stC [0, 0, 0, 0]) w2 (by decide) rfl rfl hq0 rfl (by decide) (by decide) (by decide)).mono ?_
  rintro e w3 ⟨B', rfl, hown, hb3⟩
  have hlst0 : ∃ A0 c0, B' = .slice A0 4 c0 ∧ w3.ownsRow w2.heap.size 50 1 (.slice A0 4 c0) 4 sts := by
    have hown2 : w3.ownsRow w2.heap.size 50 1 B' 4 [.int .u8 1, .int .u8 1, .int .u8 0, .int .u8 0] := hown
    obtain ⟨A0, c0, rfl⟩ := own_form hown2
    exact ⟨A0, c0, rfl, hown2⟩
  obtain ⟨A0, c0, rfl, hlst⟩ := hlst0
  have hb4 := cur_step1 (cur_step1 hb1 hb2) hb3
  clear hown hb3 hb2 hb1 hq hq0
  go_wp2_with (guard_target =~ wpList _ _ _ _ _ (World.alloc _ _); refine wpList_storeNew rfl _ _ 32 rfl _ (innL zeroR 0 1 2 (.slice A0 4 c0)).toArray inn_info (by rfl) (by rfl) rfl (inn_one _ _ _ _ _ _ _) ?_; have hb5 := cur_new w3 (.cells (innL zeroR 0 1 2 (.slice A0 4 c0)).toArray 32); have hin5 := Blk.new w3 32 (innL zeroR 0 1 2 (.slice A0 4 c0)); generalize w3.alloc (Obj.cells (innL zeroR 0 1 2 (.slice A0 4 c0)).toArray 32) = w5 at hb5 hin5 ⊢)
  obtain ⟨G, hG⟩ : ∃ G, G = w3.heap.size := ⟨_, rfl⟩
  have hGw : w.heap.size ≤ G := by have := hb4.size; omega
  have hne5 : ∀ k, (Value.slice A0 4 c0).ownBlock = some k → k ≠ G := fun k hk => by have := own_range hlst k hk; omega
  have hlst5 := own_mono (own_below hlst hb5 (Nat.le_refl _)) (Nat.zero_le _)
  have hb6 := cur_step1 hb4 hb5
  rw [← hG] at hin5 ⊢
  clear hlst hb4 hb5 hG
  go_loopw [7, 8] (EI w G (ov % 8) l) (fun _ i _ => 16 - (intOf i).toNat)
  case atStart => exact ⟨0, 0, A0, c0, by omega, by omega, rfl, by simp, by omega, by omega, ⟨hb6, hin5, hlst5, hne5⟩⟩
  case round =>
    obtain ⟨k, m, A', c', hk, hk16, rfl, rfl, hm0, hm1, hin⟩ := hrel
    have HI := Lib.hid hin
    clear hin hin5 hlst5 hb6 hne5
    have hq0 : 0 ≤ ov % 8 ∧ ov % 8 ≤ 7 := by omega
    by_cases hkl : k < l.length
    · by_cases hk2 : k < 16
      · obtain ⟨x, hx⟩ : ∃ x, l[k]? = some x := ⟨_, List.getElem?_eq_getElem hkl⟩
        obtain ⟨b, off, rfl, hbb, hcl⟩ := hr.at_ HI.out.below hx
        have c0 : wr.cell? ⟨b, off + k, none⟩ = some (.int .u8 x) := by simpa using hcl 0 _ rfl
        have hx2 := hb x (List.mem_of_getElem? hx)
        have hx3 : 0 ≤ x % 8 ∧ x % 8 ≤ 7 := by omega
        have HXK := Lib.hid hx
        clear hcl hx
        go_wp2_with fail
        have hbl : b < wr.heap.size := by have := HI.out.below.size; omega
        have HLS := Lib.hid (show Lst wr.drew (.slice A' 4 c') sts from HI.out.lst)
        have hwx : (IntKind.i64.wrap x).tmod 8 = x % 8 := by
          have h1 : IntKind.i64.wrap x = x := by simp [IntKind.wrap, IntKind.bits, IntKind.signed]; omega
          rw [h1, Int.tmod_eq_emod_of_nonneg hx2.1]
        have HWX := Lib.hid hwx
        have HX := Lib.hid (show if (IntKind.i64.wrap x).tmod 8 % 2 = 0 then stP (m + x % 8) = stP m ∧ otP (m + x % 8) = otP m else stP (m + x % 8) = otP m ∧ otP (m + x % 8) = stP m by rw [hwx]; exact stP_step m (x % 8))
        have hx4 : 0 ≤ (IntKind.i64.wrap x).tmod 8 ∧ (IntKind.i64.wrap x).tmod 8 ≤ 1000 := by rw [hwx]; omega
        clear hwx
        obtain ⟨N, hN⟩ : ∃ N : Nat, N = 28 := ⟨_, rfl⟩
        have hA : ∀ w, Sem.run Try.prog (isAgg 32) w = .ok true w := fun w => Try.isAgg32 w
        have hZ : ∀ w, Sem.run Try.prog (sizeOf 32) w = .ok N w := fun w => by rw [hN]; exact Try.sizeOf32 w
        have hload : Sem.run Try.prog (loadCellsFrom ⟨G, 0, none⟩ 0 N #[]) wr.drew = .ok (innL zeroR 0 (stP m) (otP m) (.slice A' 4 c')).toArray wr.drew := run_loadCells_blk (w := wr.drew) HI.out.blk (by rw [hN]; rfl)
        have HN := Lib.hid hN
        clear hN
        go_region_with (go_at_call 9; refine (ran_ok zeroR 0 (stP m) (otP m) 1 1 ((IntKind.i64.wrap x).tmod 8) 0 0 0 0 0 0 false A' 4 c' sts _ (by decide) (by decide) rfl HLS.out hx4 (stP (m + x % 8)) (otP (m + x % 8)) HX.out).mono ?_; rintro e w7 ⟨B2, rfl, hown7, hb7⟩; obtain ⟨A2, c2, rfl⟩ := own_form hown7; have hbw : Below wr.heap.size wr w7 := ((Below.refl wr.heap.size wr).drew).trans hb7; have hlen : ((innL zeroR 0 (stP (m + x % 8)) (otP (m + x % 8)) (.slice A2 4 c2)).length = N) = True := (by rw [HN.out]; exact eq_true rfl); have hstore : Sem.run Try.prog (storeCells ⟨G, 0, none⟩ (innL zeroR 0 (stP (m + x % 8)) (otP (m + x % 8)) (.slice A2 4 c2))) w7 = .ok () (w7.setRow G (innL zeroR 0 (stP (m + x % 8)) (otP (m + x % 8)) (.slice A2 4 c2)).toArray) := inn_put (HI.out.blk.to hbw))
        all_goals
          have hin8 := inm_put (m' := m + x % 8) HI.out hbw hown7 hGw
          clear hload hlen hstore hA hZ HN hown7 hbw hb7 HLS HX
          generalize w7.setRow G (innL zeroR 0 (stP (m + x % 8)) (otP (m + x % 8)) (.slice A2 4 c2)).toArray = w8 at hin8 ⊢
          have c8 : w8.cell? ⟨b, off + k, none⟩ = some (.int .u8 x) := by
            obtain ⟨b9, off9, e9, _, hcl9⟩ := hr.at_ hin8.below HXK.out
            injection e9 with e9
            injection e9 with e91 e92 _
            subst e91 e92
            simpa using hcl9 0 _ rfl
          have HI8 := Lib.hid hin8
          clear hin8
          go_wp2_with fail
          go_roundw
          case rel => exact ⟨k + 1, m + x % 8, A2, c2, by omega, by omega, by simp, by rw [Int.add_assoc], by omega, by omega, HI8.out⟩
          case measure => simp [intOf]; omega
      · have hm7 : m ≤ 1000 := by omega
        go_wp2_with fail
        go_loopw [49] (EC w G (ov % 8) m) (fun i _ => 8 - (intOf i).toNat)
        case atStart => exact ⟨0, A', c', by omega, rfl, by simpa using HI.out⟩
        case round =>
          obtain ⟨j, A3, c3, hj, rfl, hin3⟩ := hrel
          have HJ := Lib.hid hin3
          clear hin3 HI
          by_cases hjq : (j : Int) < ov % 8
          · go_wp2_with (first
              | (refine wpList_load_row rfl 32 _ rfl G (by rfl) 32 (innL zeroR 0 (stP (m + j)) (otP (m + j)) (.slice A3 4 c3)).toArray (0, 0) _ HJ.out.blk Try.underlying32 rfl inn_info ?_)
              | (go_at_call 10; refine (change_f zeroR 0 (stP (m + j)) (otP (m + j)) (.slice A3 4 c3) sts _ (by decide) HJ.out.lst (by decide)).mono ?_; rintro e w7 ⟨B2, rfl, hown7, hb7⟩; obtain ⟨A4, c4, rfl⟩ := own_form hown7; have hin8 := inm_put (m' := m + (j + 1 : Nat)) HJ.out hb7 hown7 hGw; have hst := Lib.hid (stP_one (m + j)); have HB7 := Lib.hid (HJ.out.blk.to hb7); have H8 := Lib.hid hin8; have HST := Lib.hid (show stP (m + (j + 1 : Nat)) = otP (m + j) ∧ otP (m + (j + 1 : Nat)) = stP (m + j) by (have := hst.out; rw [Int.add_assoc] at this; exact_mod_cast this)); clear hin8 hown7 hb7 hst)
              | (refine wpList_storeC rfl _ _ 32 rfl G 32 (innL zeroR 0 (stP (m + j)) (otP (m + j)) (.slice A3 4 c3)) (innL zeroR 0 (otP (m + j)) (stP (m + j)) (.slice A4 4 c4)).toArray inn_info (by rfl) (by rfl) HB7.out rfl (inn_one _ _ _ _ _ _ _) ?_))
            go_roundw
            case rel =>
              refine ⟨j + 1, A4, c4, by omega, by simp, ?_⟩
              have h9 := H8.out
              rw [HST.out.1, HST.out.2] at h9
              exact h9
            case measure => simp [intOf]; omega
          · have hj2 : (j : Int) = ov % 8 := by omega
            by_cases hp : (ov % 8 + m) % 2 = 0
            · have c12 : wr.cell? ⟨G, 12, none⟩ = some (.int .i64 1) := (HJ.out.blk.cell 12).trans (by show some (Value.int .i64 (stP (m + j))) = _; unfold stP; rw [if_pos (by omega)])
              have c13 : wr.cell? ⟨G, 13, none⟩ = some (.int .i64 2) := (HJ.out.blk.cell 13).trans (by show some (Value.int .i64 (otP (m + j))) = _; unfold otP; rw [if_pos (by omega)])
              go_wp2_with fail
              all_goals
                go_ret
                exact ⟨rfl, HJ.out.below⟩
            · have c12 : wr.cell? ⟨G, 12, none⟩ = some (.int .i64 2) := (HJ.out.blk.cell 12).trans (by show some (Value.int .i64 (stP (m + j))) = _; unfold stP; rw [if_neg (by omega)])
              have c13 : wr.cell? ⟨G, 13, none⟩ = some (.int .i64 1) := (HJ.out.blk.cell 13).trans (by show some (Value.int .i64 (otP (m + j))) = _; unfold otP; rw [if_neg (by omega)])
              go_wp2_with fail
              all_goals
                go_ret
                exact ⟨rfl, HJ.out.below⟩
    · have hm7 : m ≤ 1000 := by omega
      go_wp2_with fail
      go_loopw [49] (EC w G (ov % 8) m) (fun i _ => 8 - (intOf i).toNat)
      case atStart => exact ⟨0, A', c', by omega, rfl, by simpa using HI.out⟩
      case round =>
        obtain ⟨j, A3, c3, hj, rfl, hin3⟩ := hrel
        have HJ := Lib.hid hin3
        clear hin3 HI
        by_cases hjq : (j : Int) < ov % 8
        · go_wp2_with (first
            | (refine wpList_load_row rfl 32 _ rfl G (by rfl) 32 (innL zeroR 0 (stP (m + j)) (otP (m + j)) (.slice A3 4 c3)).toArray (0, 0) _ HJ.out.blk Try.underlying32 rfl inn_info ?_)
            | (go_at_call 10; refine (change_f zeroR 0 (stP (m + j)) (otP (m + j)) (.slice A3 4 c3) sts _ (by decide) HJ.out.lst (by decide)).mono ?_; rintro e w7 ⟨B2, rfl, hown7, hb7⟩; obtain ⟨A4, c4, rfl⟩ := own_form hown7; have hin8 := inm_put (m' := m + (j + 1 : Nat)) HJ.out hb7 hown7 hGw; have hst := Lib.hid (stP_one (m + j)); have HB7 := Lib.hid (HJ.out.blk.to hb7); have H8 := Lib.hid hin8; have HST := Lib.hid (show stP (m + (j + 1 : Nat)) = otP (m + j) ∧ otP (m + (j + 1 : Nat)) = stP (m + j) by (have := hst.out; rw [Int.add_assoc] at this; exact_mod_cast this)); clear hin8 hown7 hb7 hst)
            | (refine wpList_storeC rfl _ _ 32 rfl G 32 (innL zeroR 0 (stP (m + j)) (otP (m + j)) (.slice A3 4 c3)) (innL zeroR 0 (otP (m + j)) (stP (m + j)) (.slice A4 4 c4)).toArray inn_info (by rfl) (by rfl) HB7.out rfl (inn_one _ _ _ _ _ _ _) ?_))
          go_roundw
          case rel =>
            refine ⟨j + 1, A4, c4, by omega, by simp, ?_⟩
            have h9 := H8.out
            rw [HST.out.1, HST.out.2] at h9
            exact h9
          case measure => simp [intOf]; omega
        · have hj2 : (j : Int) = ov % 8 := by omega
          by_cases hp : (ov % 8 + m) % 2 = 0
          · have c12 : wr.cell? ⟨G, 12, none⟩ = some (.int .i64 1) := (HJ.out.blk.cell 12).trans (by show some (Value.int .i64 (stP (m + j))) = _; unfold stP; rw [if_pos (by omega)])
            have c13 : wr.cell? ⟨G, 13, none⟩ = some (.int .i64 2) := (HJ.out.blk.cell 13).trans (by show some (Value.int .i64 (otP (m + j))) = _; unfold otP; rw [if_pos (by omega)])
            go_wp2_with fail
            all_goals
              go_ret
              exact ⟨rfl, HJ.out.below⟩
          · have c12 : wr.cell? ⟨G, 12, none⟩ = some (.int .i64 2) := (HJ.out.blk.cell 12).trans (by show some (Value.int .i64 (stP (m + j))) = _; unfold stP; rw [if_neg (by omega)])
            have c13 : wr.cell? ⟨G, 13, none⟩ = some (.int .i64 1) := (HJ.out.blk.cell 13).trans (by show some (Value.int .i64 (otP (m + j))) = _; unfold otP; rw [if_neg (by omega)])
            go_wp2_with fail
            all_goals
              go_ret
              exact ⟨rfl, HJ.out.below⟩
end Go.Proofs.Ytjlmlafiojpjmaa
