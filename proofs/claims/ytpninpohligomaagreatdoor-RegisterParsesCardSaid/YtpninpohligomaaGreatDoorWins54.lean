/-
  Chapter 54: the windows as the reference has them: a list of the call's own.
-/
import Derived.Test.YtpninpohligomaaGreatDoorFew54
set_option linter.unusedSimpArgs false
set_option linter.unusedVariables false
namespace Go.Proofs.YtpninpohligomaaGreatDoor
open Go.RowKit
set_option maxRecDepth 100000
set_option maxHeartbeats 1000000
theorem Tryz.infoRw : (Tryz.prog.info? 56).map (fun i => (i.zero, i.size, i.bytes)) = some (some (.agg #[.int .i64 0, .int .i64 0]), 2, 16) := by kernel_rfl
theorem Tryz.rwElem : ElemOf Tryz.prog wnE 2 16 42 56 := .mk' Tryz.infoRw rfl Tryz.underlying42 (by decide) wnE_len (fun x u hu => by simp [wnE] at hu; rcases hu with rfl | rfl <;> rfl)
def WinR (w : World) (l : List Wn) (o i : Value) (wr : World) : Prop := ∃ (L R : List Wn) (A : Option Addr) (c : Nat), l = L ++ R ∧ i = .int .i64 L.length ∧ o = .slice A L.length c ∧ OwnL wnE 2 56 w.heap.size wr (.slice A L.length c) L ∧ Below w.heap.size w wr
theorem win_f (A : Option Addr) (c : Nat) (l : List Wn) (w : World) (hl : l.length ≤ 32) (hr : Rd wnE 2 w w.heap.size A l) :
    Calls Tryz.prog 18 #[.slice A l.length c] w fun e w' => ∃ A2 c2, e = .returned (.slice A2 l.length c2) ∧ Rd wnE 2 w' w'.heap.size A2 l ∧ Below w.heap.size w w' := by
  have HR := Lib.hid hr
  clear hr
  go_enter Tryz.func18, Tryz.ntmps18
  go_wp2_with fail
  go_loopw [3, 8] (WinR w l) (fun _ i _ => l.length - (intOf i).toNat)
  case atStart => exact ⟨[], l, none, 0, rfl, rfl, rfl, World.ownsRow_nil _ _ _ _, Below.refl _ _⟩
  case round =>
    obtain ⟨L, R, A2, c2, hLR, rfl, rfl, hown, hB⟩ := hrel
    have HO := Lib.hid hown
    have HB := Lib.hid hB
    clear hown hB
    have HL0 := Lib.hid hLR
    clear hLR
    cases R with
    | cons x R' =>
      have hLR := HL0.out
      have hx : l[L.length]? = some x := by rw [hLR]; simp
      have hlt : L.length < l.length := by rw [hLR]; simp
      obtain ⟨b, off, rfl, hbb, hcl⟩ := HR.out.at_ HB.out hx
      obtain ⟨c0, c1⟩ := wn_cells hcl
      have HLR := Lib.hid (show l = (L ++ [x]) ++ R' by rw [hLR]; simp)
      have hb1 := HB.out.size
      clear hcl hx hLR
      go_wp2_with (at_builtin; refine wpList_app1 Tryz.rwElem _ rfl (.tmp 12) (.tmp 18) rfl w.heap.size A2 c2 L rfl ?o1 x (wr.heap.size + 1) 1 rfl ?o2 ?o3 ?o4 ?o5 ?_)
      case o1 => exact own_below HO.out (cur_two _ _ _) (Nat.le_refl _)
      case o2 => exact two_new _ _ _
      case o3 => unfold maxLen; omega
      case o4 => omega
      case o5 => simp; omega
      intro g cap w1 ha
      obtain ⟨hb2, ho2⟩ := app1_end HB.out (fun b hb => (own_range HO.out b hb).1) (cur_two _ _ _) ha
      have HO2 := Lib.hid ho2
      have HB2 := Lib.hid hb2
      clear ha ho2 hb2
      go_wp2_with fail
      go_roundw
      case rel => exact ⟨L ++ [x], R', some ⟨g, 0, none⟩, cap, HLR.out, by simp, by simp, HO2.out, HB2.out⟩
      case measure => simp [intOf]; omega
    | nil =>
      obtain rfl : l = L := by simpa using HL0.out
      obtain ⟨A3, c3, e3, hrd, _⟩ := HO.out.rd wnE_len
      have HRD := Lib.hid hrd
      injection e3 with e31 e32 e33
      subst e31
      clear hrd
      go_wp2_with fail
      go_ret
      exact ⟨A2, ⟨_, rfl⟩, HRD.out, HB.out⟩
end Go.Proofs.YtpninpohligomaaGreatDoor
