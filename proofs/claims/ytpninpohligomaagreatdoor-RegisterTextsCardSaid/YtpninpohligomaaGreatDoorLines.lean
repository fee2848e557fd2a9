/-
  strings.Lines: the contract of its iterator, which keeps what is left in a box.
-/
import Derived.Test.YtpninpohligomaaGreatDoorLibT
import Derived.Test.YtpninpohligomaaGreatDoorLinP
import Derived.Test.YtpninpohligomaaGreatDoorRfBox
import Derived.TacticsInMore
import Derived.LoopIn
import Derived.OwnWalkIn
import Derived.Shelf.RegionOpen
set_option linter.unusedSimpArgs false
set_option linter.unusedVariables false
namespace Go.Proofs.YtpninpohligomaaGreatDoor
open Go.RowKit
set_option maxRecDepth 100000
set_option maxHeartbeats 2000000
theorem indexByte_atB (c : UInt8) : ∀ l : List UInt8, Lib.indexByte l c = match atB c l with | some i => (i : Int) | none => -1
  | [] => rfl
  | x :: r => by
    have ih := indexByte_atB c r
    unfold Lib.indexByte atB
    by_cases h : x = c
    · simp [h]
    · rw [if_neg (by simpa using h), if_neg h, ih]
      cases atB c r with
      | none => simp
      | some i => simp <;> omega
theorem Tryz.ib_hit {s : ByteArray} {i : Nat} (h : atB 10 s.data.toList = some i) (w : World) :
    Calls Tryz.prog 57 #[.string s, .int .u8 10] w fun e w' => e = .returned (.int .i64 i) ∧ w = w' :=
  (Tryz.ib_p s 10 w).mono fun _ _ ⟨h1, h2⟩ => ⟨by rw [h1, show ((10 : Int).toNat.toUInt8) = 10 from rfl, indexByte_atB, h], h2⟩
theorem Tryz.ib_miss {s : ByteArray} (h : atB 10 s.data.toList = none) (w : World) :
    Calls Tryz.prog 57 #[.string s, .int .u8 10] w fun e w' => e = .returned (.int .i64 (-1)) ∧ w = w' :=
  (Tryz.ib_p s 10 w).mono fun _ _ ⟨h1, h2⟩ => ⟨by rw [h1, show ((10 : Int).toNat.toUInt8) = 10 from rfl, indexByte_atB, h], h2⟩
def boxLen (bx : Nat) (w : World) : Nat := match w.cell? ⟨bx, 0, none⟩ with
  | some (.string r) => r.size
  | _ => 0
theorem boxLen_eq {bx : Nat} {w : World} {t : TypeId} {r : ByteArray} (h : Boxed w bx t (.string r)) : boxLen bx w = r.size := by
  unfold boxLen; rw [h.cell]
theorem ext_take (s : ByteArray) (k : Nat) : (s.extract 0 k).data.toList = s.data.toList.take k := by
  simp [ByteArray.data_extract, Array.toList_extract, List.extract_eq_take_drop]
theorem ext_drop (s : ByteArray) (k : Nat) : (s.extract k s.size).data.toList = s.data.toList.drop k := by
  simp only [ByteArray.data_extract, Array.toList_extract, List.extract_eq_take_drop]
  exact List.take_of_length_le (by simp)
theorem Tryz.lines_stops (n : Nat) (hn : 2 ≤ n) (bx : Nat) (s : ByteArray) (hs : s.size ≤ 1000) :
    SeqBox Fence.wide n Tryz.prog 56 #[.pointer (some ⟨bx, 0, none⟩)] (fun x : Ln => #[Value.string x.1]) (fun xs => xs.map lnB = linesC s.data.toList) (fun pre => pre.map lnB <+: linesC s.data.toList) (linesC s.data.toList).length bx 9 (.string s) := by
  intro l J Jx W hbx hJ hJx hY h0
  have hn1 : 1 ≤ n := by omega
  refine callsIn_of_wp Tryz.func56 rfl trivial ?_ rfl
  simp only [Tryz.ntmps56, List.size_toArray, List.length_cons, List.length_nil, Nat.reduceAdd, Nat.reduceSub, Array.replicate_succ, Array.replicate_zero, List.push_toArray, List.append_toArray, List.nil_append, List.cons_append]
  gi_wp2
  gi_loopw [3] (fun _ wr => ∃ (pre : List Ln) (rest : ByteArray), Boxed wr bx 9 (.string rest) ∧ linesC s.data.toList = pre.map lnB ++ linesC rest.data.toList ∧ rest.size ≤ 1000 ∧ J pre wr) (fun _ wr => boxLen bx wr)
  case atStart => exact ⟨[], s, hbx, rfl, hs, h0⟩
  case round =>
    obtain ⟨pre, rest, hb, hx, hsz, hj⟩ := hrel
    have hc := hb.cell
    have hf := hb.frozen
    by_cases h0 : rest.size = 0
    · have hxs : linesC rest.data.toList = [] := by
        have : rest.data.toList = [] := List.eq_nil_of_length_eq_zero (by simpa using h0)
        rw [this, linesC_nil]
      rw [hxs, List.append_nil] at hx
      have HX := Lib.hid hx
      have HY := Lib.hid hY
      clear hx hY hxs
      gi_wp2
      go_end0
      exact ⟨⟨_, rfl⟩, .inl ⟨pre, HX.out.symm, hj⟩⟩
    · have hpos : 0 < rest.size := by omega
      have hlenR : rest.data.toList.length = rest.size := by simp
      cases ha : atB 10 rest.data.toList with
      | none =>
        have hne : rest.data.toList ≠ [] := fun e => by rw [e] at hlenR; simp at hlenR; omega
        have hl := linesC_last ha hne
        rw [hl] at hx
        have hlen : pre.length < (linesC s.data.toList).length := by rw [hx]; simp
        obtain ⟨fn, tmps, assign, body, hy, hR⟩ := hY pre ⟨rest, hsz⟩ (wr.setCell ⟨bx, 0, none⟩ (.string ⟨#[]⟩)) (hJ.2.1 _ _ _ hj) hlen
        have hy' := hy
        dsimp only at hy'
        have HX := Lib.hid hx
        have HY := Lib.hid hY
        have HA := Lib.hid ha
        have HB := Lib.hid (hb.set (.string ⟨#[]⟩))
        clear hx hY hlen hl hne ha hy
        gi_wp2_with (refine ⟨trivial, ?_⟩; gi_at_call 57; refine (callsIn_wide.2 (Tryz.ib_miss HA.out _)).mono ?_; rintro e w' ⟨rfl, rfl⟩)
        refine hR.mono ?_
        rintro e W3 (⟨rfl, hJ3, hk3⟩ | ⟨rfl, hJx3⟩)
        · have hb3 : Boxed W3 bx 9 (.string ⟨#[]⟩) := by show W3.heap[bx]? = _; rw [hk3]; exact HB.out
          gi_wp2
          go_roundw
          case rel => exact ⟨pre ++ [⟨rest, hsz⟩], ⟨#[]⟩, hb3, by rw [HX.out, linesC_nil, List.map_append, List.append_nil]; rfl, by decide, hJ3⟩
          case measure => rw [boxLen_eq hb3, boxLen_eq hb]; exact hpos
        · gi_wp2
          refine bodyPost_ret (results_none rfl _ _ _) rfl ?_
          exact ⟨⟨_, rfl⟩, .inr ⟨pre ++ [⟨rest, hsz⟩], by rw [HX.out, List.map_append]; exact List.prefix_refl _, hJx3⟩⟩
      | some i =>
        have hi := atB_lt ha
        have hl := linesC_cut ha
        rw [hlenR] at hi
        have hi1 : i + 1 ≤ rest.size := hi
        have hlen : pre.length < (linesC s.data.toList).length := by rw [hx, hl]; simp
        have hsz1 : (rest.extract 0 (i + 1)).size ≤ 1000 := by rw [ByteArray.size_extract]; omega
        have hsz2 : (rest.extract (i + 1) rest.size).size ≤ 1000 := by rw [ByteArray.size_extract]; omega
        have hlt2 : (rest.extract (i + 1) rest.size).size < rest.size := by rw [ByteArray.size_extract]; omega
        have w1 : IntKind.i64.wrap ((i : Int) + 1) = ((i + 1 : Nat) : Int) := by rw [IntKind.wrap_i64]; omega
        have HX := Lib.hid hx
        have HL := Lib.hid hl
        have HA := Lib.hid ha
        have HY := Lib.hid hY
        clear hx hl ha hY hlenR
        gi_wp2_with (refine ⟨trivial, ?_⟩; gi_at_call 57; refine (callsIn_wide.2 (Tryz.ib_hit HA.out _)).mono ?_; rintro e w' ⟨rfl, rfl⟩)
        have hmx : Tryz.prog.follows .mixedOrders = true := by kernel_rfl
        gi_region
        have hb2 : Boxed (wr.setCell ⟨bx, 0, none⟩ (.string (rest.extract (i + 1) rest.size))).drew bx 9 (.string (rest.extract (i + 1) rest.size)) := boxed_drew (hb.set _)
        obtain ⟨fn, tmps, assign, body, hy, hR⟩ := HY.out pre ⟨rest.extract 0 (i + 1), hsz1⟩ (wr.setCell ⟨bx, 0, none⟩ (.string (rest.extract (i + 1) rest.size))).drew (hJ.2.2 _ _ (hJ.2.1 _ _ _ hj)) hlen
        have hy' := hy
        dsimp only at hy'
        have HB2 := Lib.hid hb2
        clear hy w1 hi1 hi hb2 hc hf
        gi_wp2
        refine hR.mono ?_
        rintro e W3 (⟨rfl, hJ3, hk3⟩ | ⟨rfl, hJx3⟩)
        · have hb3 : Boxed W3 bx 9 (.string (rest.extract (i + 1) rest.size)) := by show W3.heap[bx]? = _; rw [hk3]; exact HB2.out
          gi_wp2
          go_roundw
          case rel => exact ⟨pre ++ [⟨rest.extract 0 (i + 1), hsz1⟩], rest.extract (i + 1) rest.size, hb3, by rw [HX.out, HL.out, List.map_append, ext_drop, List.append_assoc]; congr 1; show _ = [(rest.extract 0 (i + 1)).data.toList] ++ _; rw [ext_take]; rfl, hsz2, hJ3⟩
          case measure => rw [boxLen_eq hb3, boxLen_eq hb]; exact hlt2
        · gi_wp2
          refine bodyPost_ret (results_none rfl _ _ _) rfl ?_
          refine ⟨⟨_, rfl⟩, .inr ⟨pre ++ [⟨rest.extract 0 (i + 1), hsz1⟩], ?_, hJx3⟩⟩
          rw [HX.out, HL.out, List.map_append]
          refine (List.prefix_append_right_inj _).2 ?_
          show [(rest.extract 0 (i + 1)).data.toList] <+: _
          rw [ext_take]
          exact ⟨_, rfl⟩
end Go.Proofs.YtpninpohligomaaGreatDoor
