/-
  Chapter 8: TextLog of the program.
-/
import Derived.Test.YtgkjcapoddjkhaaGreatDoorEvT
import Derived.Deep.MidRow
set_option linter.unusedSimpArgs false
set_option linter.unusedVariables false
namespace Go.Proofs.YtgkjcapoddjkhaaGreatDoor
open Go.RowKit
set_option maxRecDepth 100000
set_option maxHeartbeats 4000000
def logF (acc : List UInt8) : List Ev → List UInt8 × Int
  | [] => (acc, 0)
  | e :: r => if chkE e ≠ 0 then ([], chkE e) else logF (acc ++ (txtE e ++ [10])) r
def TxtLog (l : List Ev) : List UInt8 × Int := if 4000 < l.length then ([], 9) else logF [] l
theorem evt_info2 : (Tryz.prog.info? 29).map (·.size) = some 19 := by kernel_rfl
theorem evt_one2 (e : Ev) : (evE e).toArray.all (·.oneCell') = true := by simp [evE, delE, Value.oneCell']
def TlR (l : List Ev) (w : World) (iv : Value) (wr : World) : Prop := ∃ (k : Nat) (acc : List UInt8), k ≤ l.length ∧ iv = .int .i64 k ∧ Bld w.heap.size w.heap.size acc wr ∧ logF acc (l.drop k) = logF [] l ∧ acc.length ≤ 201 * k ∧ Below w.heap.size w wr
theorem textlog_p (l : List Ev) (A : Option Addr) (c : Nat) (w : World) (hl : l.length ≤ 1000000) (hh : ∀ e ∈ l, 0 ≤ e.ball.how) (hw : LibW w) (hrd : Rd evE 19 w w.heap.size A l) :
    Calls Tryz.prog 17 #[.slice A l.length c] w fun e' w' => e' = .returned (.tuple #[.string (sA (TxtLog l).1), .int .i64 (TxtLog l).2]) ∧ Below w.heap.size w w' := by
  obtain ⟨R, hR⟩ : ∃ R, TxtLog l = R := ⟨_, rfl⟩
  rw [hR]
  by_cases h4 : 4000 < l.length
  · have HRR := Lib.hid (show R = ([], 9) by rw [← hR]; unfold TxtLog; rw [if_pos h4])
    have g1 : decide (4000 < (l.length : Int)) = true := by simp; omega
    go_enter Tryz.func17, Tryz.ntmps17
    go_wp2_with (fail)
    go_ret2
    rw [HRR.out]
    exact ⟨rfl, Below.refl _ _⟩
  have HRR := Lib.hid (show R = logF [] l by rw [← hR]; unfold TxtLog; rw [if_neg h4])
  have g1 : decide (4000 < (l.length : Int)) = false := by simp; omega
  have HRD := Lib.hid hrd
  have HL := Lib.hid hw
  have HH := Lib.hid hh
  have HB0 := Lib.hid (Bld.new w)
  clear hR hrd hw hh
  go_enter Tryz.func17, Tryz.ntmps17
  go_wp2_with (fail)
  go_loopw [14] (TlR l w) (fun i _ => l.length - (intOf i).toNat)
  case atStart => exact ⟨0, [], by omega, rfl, HB0.out, rfl, by simp, cur_new _ _⟩
  case round =>
    obtain ⟨k, acc, hk, rfl, hbd, hlog, hac, hb⟩ := hrel
    have HBD := Lib.hid hbd
    have HLG := Lib.hid hlog
    have HB := Lib.hid hb
    clear hbd hlog hb
    by_cases hkl : k < l.length
    · obtain ⟨x, hx⟩ : ∃ x, l[k]? = some x := ⟨_, List.getElem?_eq_getElem hkl⟩
      obtain ⟨b2, off2, rfl, hb2l, hc2⟩ := HRD.out k x hx
      have hra : wr.rangeAt b2 (off2 + k * 19) (evE x) := fun j v hv => (HB.out.cell (p := ⟨b2, off2 + k * 19 + j, none⟩) hb2l).trans (hc2 j v hv)
      have HRA := Lib.hid hra
      have HXH := Lib.hid (HH.out x (List.mem_of_getElem? hx))
      have HNX := Lib.hid (show logF acc (l.drop k) = if chkE x ≠ 0 then ([], chkE x) else logF (acc ++ (txtE x ++ [10])) (l.drop (k + 1)) by
        have hd : l.drop k = x :: l.drop (k + 1) := by rw [List.drop_eq_getElem_cons hkl]; congr 1; exact Option.some.inj ((List.getElem?_eq_getElem hkl).symm.trans hx)
        rw [hd]; rfl)
      clear hra hc2 hx
      obtain ⟨W6, hW6⟩ : ∃ y, wr.alloc (.cells (evE x).toArray 29) = y := ⟨_, rfl⟩
      have HB6 := Lib.hid (show Below wr.heap.size wr W6 by rw [← hW6]; exact cur_new _ _)
      have HX6 := Lib.hid (show Blk W6 wr.heap.size 29 (evE x) by rw [← hW6]; exact Blk.new wr _ _)
      have S6 := Lib.hid hW6
      clear hW6
      go_wp2_with (first | (refine wpList_load_mid rfl 29 _ rfl b2 (off2 + k * 19) (by rfl) (evE x) _ HRA.out (by rfl) (by rfl) evt_info2 ?_) | (refine wpList_storeNew rfl _ _ 29 rfl _ (evE x).toArray evt_info2 (by rfl) (by rfl) rfl (evt_one2 _) ?_; rw [S6.out]) | (refine wpList_loadC rfl _ 29 rfl wr.heap.size 29 (evE x) _ rfl (by rfl) (by rfl) (by rfl) HX6.out ?_))
      refine (text_p x HXH.out W6 (HL.out.to (cur_step1 HB.out HB6.out))).mono ?_
      rintro e' w7 ⟨rfl, hb7⟩
      have HB7 := Lib.hid (cur_step1 HB6.out hb7)
      have HBD7 := Lib.hid (HBD.out.to HB7.out)
      clear hb7
      by_cases hc : chkE x = 0
      · have HT := Lib.hid (show TxtE x = (txtE x, 0) by unfold TxtE; rw [if_neg (by simpa using hc)])
        have HTL := Lib.hid (show (txtE x).length ≤ 200 from txt_len (okE_of hc))
        have HN2 := Lib.hid (show logF (acc ++ (txtE x ++ [10])) (l.drop (k + 1)) = logF [] l by rw [← HLG.out, HNX.out, if_neg (by simpa using hc)])
        rw [HT.out]
        dsimp only
        obtain ⟨tS, htS⟩ : ∃ y, sA (txtE x) = y := ⟨_, rfl⟩
        have htz : tS.size ≤ 200 := by rw [← htS, sA_sz]; exact HTL.out
        have hlt : (9223372036854775807 < tS.size + 1) = False := by simp; omega
        obtain ⟨tN, htN⟩ : ∃ y, tS ++ ⟨#[10]⟩ = y := ⟨_, rfl⟩
        have HTN := Lib.hid (show sA (txtE x ++ [10]) = tN by rw [← htN, ← htS]; exact (sA_app _ [10]).symm)
        rw [htS]
        have HTZ := Lib.hid (show tN.size ≤ 201 by rw [← HTN.out, sA_sz, List.length_append]; have := HTL.out; simp; omega)
        have HTS := Lib.hid htN
        clear hc htS htN
        go_wp2_with (fail)
        rw [HTS.out]
        refine (Tryz.ws_p w.heap.size w.heap.size acc tN w7 HBD7.out (by have := HTZ.out; omega) (by have := HB.out.size; have := HB7.out.size; omega)).mono ?_
        rintro e' w8 ⟨rfl, hbd8, hb8, _⟩
        have HBD8 := Lib.hid (show Bld w.heap.size w.heap.size (acc ++ (txtE x ++ [10])) w8 by have := hbd8; rw [← HTN.out, sA_data] at this; exact this)
        have HB8 := Lib.hid (show Below w.heap.size w w8 from (cur_step1 HB.out HB7.out).trans hb8)
        clear hbd8 hb8
        go_wp2_with (fail)
        exact ⟨⟨k + 1, acc ++ (txtE x ++ [10]), by omega, rfl, HBD8.out, HN2.out, by have := HTL.out; simp; omega, HB8.out⟩, by show l.length - (k + 1) < l.length - k; omega⟩
      · obtain ⟨v, hv⟩ : ∃ v, chkE x = v := ⟨_, rfl⟩
        have HT := Lib.hid (show TxtE x = ([], v) by unfold TxtE; rw [if_pos hc, hv])
        have gv : (v != 0) = true := by rw [← hv]; simpa using hc
        have HR2 := Lib.hid (show R = ([], v) by rw [HRR.out, ← HLG.out, HNX.out, if_pos hc, hv])
        rw [HT.out]
        dsimp only
        clear hc hv
        go_wp2_with (fail)
        go_ret2
        rw [HR2.out]
        exact ⟨rfl, cur_step1 HB.out HB7.out⟩
    · have hkn : k = l.length := by omega
      have g9 : ¬ k < l.length := hkl
      have HR2 := Lib.hid (show R = (acc, 0) by rw [HRR.out, ← HLG.out, hkn, List.drop_length]; rfl)
      clear hkn
      go_wp2_with (fail)
      refine (Tryz.bs_p w.heap.size w.heap.size acc wr HBD.out HB.out.size).mono ?_
      rintro e' w7 ⟨rfl, hb7⟩
      go_wp2_with (fail)
      go_ret2
      rw [HR2.out]
      exact ⟨rfl, HB.out.trans hb7⟩
end Go.Proofs.YtgkjcapoddjkhaaGreatDoor
