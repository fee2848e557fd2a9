/-
  EventLogBack: the walk. Ahead of it the laws' own comparison of two lists of events, and the first twenty.
-/
import Derived.Test.YtgkjcapoddjkhaaGreatDoorEvQ
import Derived.Test.YtgkjcapoddjkhaaGreatDoorPlog
import Derived.Deep.MidRow
import Derived.Test.YtgkjcapoddjkhaaGreatDoorLgbP
import Derived.BigQuiet
set_option linter.unusedSimpArgs false
set_option linter.unusedVariables false
namespace Go.Proofs.YtgkjcapoddjkhaaGreatDoor
open Go.RowKit
set_option maxRecDepth 100000
set_option maxHeartbeats 4000000
theorem few_p (A : Option Addr) (n c m : Nat) (hm : min n 20 = m) (hn : n ≤ c) (hc : c ≤ 9223372036854775807) (w : World) :
    Calls Tryz.prog 16 #[.slice A n c] w fun e w' => (∃ c', e = .returned (.slice A m c')) ∧ Below w.heap.size w w' := by
  have hmin : min (n : Int) 20 = (m : Nat) := by omega
  have h1 : (m : Int) ≤ c := by omega
  have h2 : ¬ (c : Int) < m := by omega
  go_enter Tryz.func16, Tryz.ntmps16
  go_wp2_with fail
  go_ret
  exact ⟨⟨_, rfl⟩, Below.refl _ _⟩
attribute [-simp] Tryz.isAgg29 Tryz.sizeOf29
theorem take_next8 {α : Type} {l : List α} {k : Nat} {x : α} (h : l[k]? = some x) : l.take (k + 1) = l.take k ++ [x] := by
  rw [List.take_add_one, h]; rfl
def SmR (w : World) (l m : List Ev) (i : Value) (wr : World) : Prop := ∃ k : Nat, k ≤ l.length ∧ i = .int .i64 k ∧ l.take k = m.take k ∧ Below w.heap.size w wr
theorem run_mid {P : Program} {w : World} {b o n : Nat} {xs : List Value} (hc : w.rangeAt b o xs) (hn : xs.length = n) : Sem.run P (loadCellsFrom ⟨b, o, none⟩ 0 n #[]) w = .ok xs.toArray w := by
  subst hn
  have := run_loadCells_list (P := P) w ⟨b, o, none⟩ xs (fun j v hv => by rw [Addr.add_mid]; exact hc j v hv)
  simpa [loadCells] using this
theorem guard_ev (op : BinOp) (x y : Operand) (xs ys : Array Value) (w : World) : (eqGuard op 29 x y (.agg xs) (.agg ys)).run Tryz.prog w = .ok () w := run_eqGuard_agg w op _ x y xs ys (by kernel_rfl)
theorem same_p (A B : Option Addr) (c d : Nat) (l m : List Ev) (w : World) (hl : l.length ≤ 1000000) (hm : m.length ≤ 1000000) (hr : Rd evE 19 w w.heap.size A l) (hs : Rd evE 19 w w.heap.size B m) :
    Calls Tryz.prog 21 #[.slice A l.length c, .slice B m.length d] w fun e w' => e = .returned (.bool (decide (l = m))) ∧ Below w.heap.size w w' := by
  by_cases h0 : l.length = m.length
  · have hne : ((l.length : Int) != (m.length : Int)) = false := by simp; omega
    have H0 := Lib.hid h0
    have HR := Lib.hid hr
    have HS := Lib.hid hs
    clear h0 hr hs
    go_enter Tryz.func21, Tryz.ntmps21
    go_wp2_with (fail)
    go_loopw [13] (SmR w l m) (fun i _ => l.length - (intOf i).toNat)
    case atStart => exact ⟨0, by omega, rfl, rfl, Below.refl _ _⟩
    case round =>
      obtain ⟨k, hk, rfl, ht, hb⟩ := hrel
      have HT := Lib.hid ht
      have HB := Lib.hid hb
      clear ht hb
      by_cases hlt : k < l.length
      · have hlm : k < m.length := by have := H0.out; omega
        obtain ⟨x, hx⟩ : ∃ x, l[k]? = some x := ⟨_, List.getElem?_eq_getElem hlt⟩
        obtain ⟨y, hy⟩ : ∃ y, m[k]? = some y := ⟨_, List.getElem?_eq_getElem hlm⟩
        obtain ⟨b1, o1, rfl, hb1, hc1⟩ := HR.out.at_ HB.out hx
        obtain ⟨b2, o2, rfl, hb2, hc2⟩ := HS.out.at_ HB.out hy
        have HX := Lib.hid hx
        have HY := Lib.hid hy
        obtain ⟨N, hN⟩ : ∃ N : Nat, 19 = N := ⟨_, rfl⟩
        have hA : ∀ w, Sem.run Tryz.prog (isAgg 29) w = .ok true w := fun w => Tryz.isAgg29 w
        have hZ : ∀ w, Sem.run Tryz.prog (sizeOf 29) w = .ok N w := fun w => by rw [← hN]; exact Tryz.sizeOf29 w
        have h19 : ((k : Int) * 19).toNat = k * 19 := by omega
        have l1 : b1 < wr.heap.size := by have := HB.out.size; omega
        have l2 : b2 < wr.heap.size := by have := HB.out.size; omega
        have hl1 : ∀ n, Sem.run Tryz.prog (loadCellsFrom ⟨b1, o1 + k * N, none⟩ 0 N #[]) (wr.drewN n) = .ok (evE x).toArray (wr.drewN n) := fun n => run_mid (fun j v hv => by rw [← hN]; simpa using hc1 j v hv) hN
        have hl2 : ∀ n, Sem.run Tryz.prog (loadCellsFrom ⟨b2, o2 + k * N, none⟩ 0 N #[]) (wr.drewN n) = .ok (evE y).toArray (wr.drewN n) := fun n => run_mid (fun j v hv => by rw [← hN]; simpa using hc2 j v hv) hN
        have p0 : wr.cell? ⟨b1, o1 + k * N, none⟩ = some (.int .u8 x.kind) := by rw [← hN]; exact hc1 0 _ rfl
        have q0 : wr.cell? ⟨b2, o2 + k * N, none⟩ = some (.int .u8 y.kind) := by rw [← hN]; exact hc2 0 _ rfl
        have hg := guard_ev
        clear hc1 hc2 hx hy hN
        by_cases he : x = y
        · have kn : ∀ w : World, (binOp .neq 29 (.agg (evE x).toArray) (.agg (evE y).toArray)).run Tryz.prog w = .ok (.bool false) w := fun w => by rw [ev_neq]; simp [he]
          have HE := Lib.hid he
          clear he
          generalize (evE x).toArray = ax at *
          generalize (evE y).toArray = ay at *
          go_wp2_with fail
          go_quiet (fail)
          go_wp2
          go_roundw
          case rel => exact ⟨k + 1, hlt, by simp, by rw [take_next8 HX.out, take_next8 HY.out, HT.out, HE.out], below_drewN HB.out _⟩
          case measure => simp [intOf]; omega
        · have kn : ∀ w : World, (binOp .neq 29 (.agg (evE x).toArray) (.agg (evE y).toArray)).run Tryz.prog w = .ok (.bool true) w := fun w => by rw [ev_neq]; simp [he]
          have HE := Lib.hid he
          clear he
          generalize (evE x).toArray = ax at *
          generalize (evE y).toArray = ay at *
          go_wp2_with fail
          go_quiet (fail)
          go_wp2
          go_ret
          have hlm : decide (l = m) = false := decide_eq_false (by
            rintro rfl
            exact HE.out (by have h1 := HX.out; have h2 := HY.out; rw [h1] at h2; injection h2))
          rw [hlm]
          exact ⟨rfl, below_drewN HB.out _⟩
      · go_wp2_with fail
        go_ret
        have hk2 : k = l.length := by omega
        have := HT.out
        rw [hk2] at this
        have hlm : decide (l = m) = true := decide_eq_true (by
          rw [List.take_length, H0.out, List.take_length] at this
          exact this)
        rw [hlm]
        exact ⟨rfl, HB.out⟩
  · have hne : ((l.length : Int) != (m.length : Int)) = true := by simp; omega
    have hd : decide (l = m) = false := by simp; intro e; exact h0 (by rw [e])
    have HD := Lib.hid hd
    clear h0 hd hr hs
    go_enter Tryz.func21, Tryz.ntmps21
    go_wp2_with fail
    go_ret
    rw [HD.out]
    exact ⟨rfl, Below.refl _ _⟩
theorem ra_extra : Go.Proofs.Builder.Extra Tryz.prog Tryz.laysRA_ren where
  sizeBuilder := by kernel_rfl
  liesBuilder := by kernel_rfl
  t5 := Tryz.underlying5
  a5 := Tryz.isAgg5
  z5 := Tryz.sizeOf5
  v5 := Tryz.zeroValue5
  infoByte := by kernel_rfl
  cellsByte := by kernel_rfl
  sizeByte := by kernel_rfl
  neB5 := by decide
theorem repl_p (s old new : ByteArray) (m : Int) (w : World) (hs : s.size < 4294967281) (hm : w.cell? ⟨0, 0, none⟩ = some (.int .i64 m)) (h1 : 1 ≤ old.size) (hlen : s.size + Lib.countB s old * new.size ≤ 140737488355328) :
    Calls Tryz.prog 23 #[.string s, .string old, .string new] w fun e w' => e = .returned (.string ⟨(Lib.replaceAll s.data.toList old.data.toList new.data.toList).toArray⟩) ∧ Below w.heap.size w w' :=
  Any.strings_ReplaceAll Tryz.laysRA ra_extra s old new m w hs hm h1 hlen
theorem cnt_p (s : ByteArray) (c : UInt8) (w : World) :
    Calls Tryz.prog 24 #[.string s, .string ⟨#[c]⟩] w fun e w' => e = .returned (.int .i64 (Lib.countByte s.data.toList c)) ∧ w' = w :=
  Any.strings_Count_one Tryz.laysCnt s c w
theorem law_logback (A : Option Addr) (c : Nat) (l : List Ev) (w : World) (hlc : l.length ≤ c) (hc : c ≤ 9223372036854775807) (hr : Rd evE 19 w w.heap.size A l) (hz : ∀ e ∈ l, 0 ≤ e.ball.how ∧ 0 ≤ e.ball.src) (hw : LibW w) :
    Calls Tryz.prog 8 #[.slice A l.length c] w fun e' w' => e' = .returned (.bool true) ∧ Below w.heap.size w w' := by
  have HL := Lib.hid hw
  obtain ⟨n, hn⟩ : ∃ n, l.length = n := ⟨_, rfl⟩
  obtain ⟨k, hk⟩ : ∃ k, l.take 20 = k := ⟨_, rfl⟩
  have hkl : min n 20 = k.length := by rw [← hk, List.length_take]; omega
  have hk20 : k.length ≤ 20 := by omega
  have HRK := Lib.hid (show Rd evE 19 w w.heap.size A k by rw [← hk]; exact hr.pre 20)
  have HH := Lib.hid (show ∀ e ∈ k, 0 ≤ e.ball.how ∧ 0 ≤ e.ball.src from fun e he => hz e (by rw [← hk] at he; exact List.mem_of_mem_take he))
  have HT0 := Lib.hid (show TxtLog k = logF [] k by unfold TxtLog; rw [if_neg (by omega)])
  have HKL := Lib.hid hkl
  have HNC := Lib.hid (show n ≤ c by omega)
  rw [hn]
  clear hr hz hk hlc hn hkl hw
  go_enter Tryz.func8, Tryz.ntmps8
  go_wp2_with (fail)
  refine (awake8_p _ HL.out).mono ?_
  rintro e' w2 ⟨rfl, hb2⟩
  have HB2 := Lib.hid hb2
  clear hb2
  go_wp2_with (fail)
  refine (few_p A n c k.length HKL.out HNC.out hc w2).mono ?_
  rintro e' w3 ⟨⟨c3, rfl⟩, hb3⟩
  have HB3 := Lib.hid (cur_step1 HB2.out hb3)
  have HR3 := Lib.hid ((HRK.out.below HB3.out).more HB3.out.size)
  clear hb3
  go_wp2_with (fail)
  refine (textlog_p k A c3 w3 (by omega) (fun e he => (HH.out e he).1) (HL.out.to HB3.out) HR3.out).mono ?_
  rintro e' w4 ⟨rfl, hb4⟩
  rw [HT0.out]
  have HB4 := Lib.hid (cur_step1 HB3.out hb4)
  clear hb4
  rcases log_cases k [] with ⟨h1, h2, h3⟩ | ⟨h1, h2⟩
  · obtain ⟨S, hS⟩ : ∃ S, (k.flatMap fun e => txtE e ++ [10]) = S := ⟨_, rfl⟩
    have hok : ∀ e ∈ k, chkE e = 0 ∧ 0 ≤ e.ball.src ∧ 0 ≤ e.ball.how := fun e he => ⟨h2 e he, (HH.out e he).2, (HH.out e he).1⟩
    have hsz : S.length ≤ 4020 := by
      rw [← hS]
      have := flat_len (fun e => txtE e ++ [10]) 201 k (fun e hm => by
        have : (txtE e).length ≤ 200 := txt_len (okE_of (h2 e hm))
        rw [List.length_append]
        show _ + 1 ≤ _
        omega)
      omega
    have HS := Lib.hid (show (logF [] k).1 = S by rw [h3, hS]; rfl)
    have HPS := Lib.hid (show ParLogP S = (k, []) by rw [← hS]; exact log_back k (by omega) hok (by rw [hS]; omega))
    have hrp := rep_log k (fun e he => ⟨(hok e he).1, (hok e he).2.2⟩)
    have hct := count_log k (fun e he => ⟨(hok e he).1, (hok e he).2.2⟩)
    rw [hS] at hrp hct
    obtain ⟨T, hT⟩ : ∃ T, (k.flatMap fun e => txtE e ++ newB) = T := ⟨_, rfl⟩
    have hTz : T.length ≤ 4120 := by
      rw [← hT]
      have := flat_len (fun e => txtE e ++ newB) 206 k (fun e hm => by
        have : (txtE e).length ≤ 200 := txt_len (okE_of (h2 e hm))
        rw [List.length_append]
        show _ + 6 ≤ _
        omega)
      omega
    have HPT := Lib.hid (show ParLogP (headB ++ T) = (k, []) by rw [← hT]; exact log_com k hk20 hok)
    rw [hT] at hrp
    have HRP := Lib.hid hrp
    have HCT := Lib.hid hct
    obtain ⟨m, hm⟩ := (HL.out.to HB4.out).maxlen
    have HM := Lib.hid hm
    have HSZ := Lib.hid hsz
    have HTZ := Lib.hid hTz
    rw [h1, HS.out]
    clear h1 h2 h3 hS hT hok hrp hct hm hsz hTz
    dsimp only
    go_wp2_with (fail)
    have hc5 := parlog_p S (by have := HSZ.out; omega) w4 (HL.out.to HB4.out)
    rw [HPS.out] at hc5
    refine hc5.mono ?_
    clear hc5
    rintro e' w5 ⟨A5, c5, B5, d5, rfl, ho5, _, hb5⟩
    have HO5 := Lib.hid ho5
    have HB5 := Lib.hid (cur_step1 HB4.out hb5)
    have HM5 := Lib.hid (HL.out.to HB5.out).maxlen
    clear hb5 ho5 HM
    obtain ⟨m, hm⟩ := HM5.out
    have HM := Lib.hid hm
    clear hm
    go_wp2_with (fail)
    refine (repl_p (sA S) ⟨#[10]⟩ ⟨#[32, 59, 32, 120, 10, 10]⟩ m w5 (by rw [sA_sz]; have := HSZ.out; omega) HM.out (by decide) (by
      have e1 : Lib.countB (sA S) ⟨#[10]⟩ = k.length := by
        show Lib.count (sA S).data.toList [10] = _
        rw [sA_data]; exact HRP.out.1
      rw [e1, sA_sz]
      show S.length + k.length * 6 ≤ _
      have := HSZ.out
      omega)).mono ?_
    rintro e' w6 ⟨rfl, hb6⟩
    have HB6 := Lib.hid (cur_step1 HB5.out hb6)
    have HO6 := Lib.hid (show OwnL evE 19 29 w4.heap.size w6 (.slice A5 k.length c5) k from own_below HO5.out hb6 (Nat.le_refl _))
    clear hb6
    obtain ⟨TB, hTB⟩ : ∃ TB, (⟨(Lib.replaceAll (sA S).data.toList (ByteArray.mk #[10]).data.toList (ByteArray.mk #[32, 59, 32, 120, 10, 10]).data.toList).toArray⟩ : ByteArray) = TB := ⟨_, rfl⟩
    have hTB2 : TB = sA T := by
      rw [← hTB, sA_data]
      show (⟨(Lib.replaceAll S [10] newB).toArray⟩ : ByteArray) = _
      rw [HRP.out.2]
      rfl
    rw [hTB]
    have hTBz : TB.size ≤ 4120 := by rw [hTB2, sA_sz]; exact HTZ.out
    have hlt : (9223372036854775807 < TB.size) = False := by simp; omega
    have hlt2 : (9223372036854775807 < 10 + TB.size) = False := by simp; omega
    have HTB := Lib.hid (show (⟨#[59, 32, 97, 32, 109, 97, 116, 99, 104, 10]⟩ : ByteArray) ++ TB = sA (headB ++ T) by rw [hTB2]; exact (sA_app headB T).symm)
    clear hTB hTB2
    go_wp2_with (fail)
    rw [HTB.out]
    have hc7 := parlog_p (headB ++ T) (by rw [List.length_append]; have := HTZ.out; show 10 + _ ≤ _; omega) w6 (HL.out.to HB6.out)
    rw [HPT.out] at hc7
    refine hc7.mono ?_
    clear hc7
    rintro e' w7 ⟨A7, c7, B7, d7, rfl, ho7, _, hb7⟩
    have HO7 := Lib.hid ho7
    have HB7 := Lib.hid (cur_step1 HB6.out hb7)
    have HP7 := Lib.hid (show OwnL evE 19 29 w4.heap.size w7 (.slice A5 k.length c5) k from own_below HO6.out hb7 (Nat.le_refl _))
    clear hb7 ho7
    have HQ1 := Lib.hid (show Rd evE 19 w7 w7.heap.size A5 k by
      obtain ⟨A', c', e, h, _⟩ := OwnL.rd evE_len HP7.out
      injection e with e _ _
      rw [e]; exact h)
    have HQ2 := Lib.hid (show Rd evE 19 w7 w7.heap.size A7 k by
      obtain ⟨A', c', e, h, _⟩ := OwnL.rd evE_len HO7.out
      injection e with e _ _
      rw [e]; exact h)
    have HQ3 := Lib.hid (show Rd evE 19 w7 w7.heap.size A k from (HRK.out.below HB7.out).more HB7.out.size)
    go_wp2_with (fail)
    refine (same_p A5 A c5 c3 k k w7 (by omega) (by omega) HQ1.out HQ3.out).mono ?_
    rintro e' w8 ⟨rfl, hb8⟩
    have HB8 := Lib.hid (cur_step1 HB7.out hb8)
    have HQ4 := Lib.hid ((HQ2.out.below hb8).more hb8.size)
    have HQ5 := Lib.hid ((HQ3.out.below hb8).more hb8.size)
    have hdk : decide (k = k) = true := by simp
    rw [hdk]
    clear hb8
    go_wp2_with (fail)
    refine (same_p A7 A c7 c3 k k w8 (by omega) (by omega) HQ4.out HQ5.out).mono ?_
    rintro e' w9 ⟨rfl, hb9⟩
    have HB9 := Lib.hid (cur_step1 HB8.out hb9)
    rw [show decide (k = k) = true by simp]
    clear hb9
    go_wp2_with (fail)
    refine (cnt_p (sA S) 10 w9).mono ?_
    rintro e' w10 ⟨rfl, rfl⟩
    have hcn : Lib.countByte (sA S).data.toList 10 = k.length := by rw [sA_data]; exact HCT.out
    rw [hcn]
    clear hcn
    go_wp2_with (fail)
    go_ret
    exact ⟨rfl, HB9.out⟩
  · obtain ⟨v, hv⟩ : ∃ v, (logF [] k).2 = v := ⟨_, rfl⟩
    rw [hv] at h1
    have gv : (v != 0) = true := by simpa using h1
    have g0 : ((sA []).toList == []) = true := by rw [sA_to]; rfl
    rw [h2, hv]
    clear h1 h2 hv
    dsimp only
    generalize sA [] = s0 at *
    go_wp2_with (fail)
    go_ret
    exact ⟨rfl, HB4.out⟩
end Go.Proofs.YtgkjcapoddjkhaaGreatDoor
