/-
  Chapter 47: going on: the weighted sum, of the program.
-/
import Derived.Test.YtkmkdknjpnkkpaaGreatDoorNow47
set_option linter.unusedSimpArgs false
set_option linter.unusedVariables false
namespace Go.Proofs.YtkmkdknjpnkkpaaGreatDoor
open Go.RowKit
set_option maxRecDepth 100000
set_option maxHeartbeats 1000000
def OnR (d : List Oc) (f : Int → Int) (w : World) (s i : Value) (wr : World) : Prop := ∃ k : Nat, k ≤ d.length ∧ i = .int .i64 k ∧ s = .int .i64 (onS f (d.take k)) ∧ Below w.heap.size w wr
theorem on_p (t : Tk) (A W L : Option Addr) (c wc lc k : Nat) (ls : List Int) (f : Int → Int) (M v : Int) (w : World) (hok : OkT t) (hd : Rd ocE 3 w w.heap.size A t.d) (hL : Rd inE 1 w w.heap.size L ls) (hk : k ≤ 1000000)
    (hf : ∀ o ∈ t.d, ls[k + o.r.toNat]? = some (f o.r) ∧ 0 ≤ f o.r ∧ f o.r ≤ M) (hM : 0 ≤ M ∧ 16 * M ≤ 281474976710656) (hv : onS f t.d = v) :
    Calls Tryz.prog 46 #[tkV t A W c wc, .slice L ls.length lc, .int .i64 k] w fun e w' => e = .returned (.int .i64 v) ∧ Below w.heap.size w w' := by
  have hbk := Blk.new w 25 (tkL t A W c wc)
  have hb0 := cur_new w (.cells (tkL t A W c wc).toArray 25)
  unfold tkL at hbk hb0
  have HD := Lib.hid hd
  have HL := Lib.hid hL
  have HF := Lib.hid hf
  have HP := Lib.hid (fun j => hok.part hM.1 (fun o ho => (hf o ho).2) j)
  have HV := Lib.hid hv
  have HE := Lib.hid hok.d.each
  have hdl := hok.d.len
  have HB0 := Lib.hid hb0
  clear hd hL hf hv hok hb0 hbk
  obtain ⟨hM0, hM1⟩ := hM
  go_enter Tryz.func46, Tryz.ntmps46
  go_wp2
  go_loopw [7, 13] (OnR t.d f w) (fun _ i _ => t.d.length - (intOf i).toNat)
  case atStart => exact ⟨0, by omega, rfl, rfl, HB0.out⟩
  case round =>
    obtain ⟨j, hj, rfl, rfl, hb⟩ := hrel
    have HB := Lib.hid hb
    clear hb HB0
    by_cases hlt : j < t.d.length
    · obtain ⟨z, hz⟩ : ∃ z, t.d[j]? = some z := ⟨_, List.getElem?_eq_getElem hlt⟩
      obtain ⟨b, off, rfl, hbb, hcl⟩ := HD.out.at_ HB.out hz
      obtain ⟨c0, c1, c2⟩ := oc_cells hcl
      have hmem := List.mem_of_getElem? hz
      have hez := HE.out z hmem
      obtain ⟨hf1, hf2, hf3⟩ := HF.out z hmem
      have HT := Lib.hid (onS_take (f := f) hz)
      have hp := HP.out j
      have hp1 := HP.out (j + 1)
      rw [HT.out] at hp1
      obtain ⟨zr, zk, zw⟩ := z
      simp only [] at *
      obtain ⟨R, rfl⟩ : ∃ R : Nat, zr = R := ⟨zr.toNat, by omega⟩
      rw [Int.toNat_natCast] at hf1
      obtain ⟨fv, hfv⟩ : ∃ fv, f (R : Int) = fv := ⟨_, rfl⟩
      rw [hfv] at hf1 hf2 hf3 hp1
      obtain ⟨lb, loff, rfl, hlb, hlc⟩ := HL.out.at_ HB.out hf1
      have cl := in_cell hlc
      have hbs := HB.out.size
      have kl : (wr.alloc (.cells #[.int .i64 R, .bool zk, .int .i64 zw] 56)).cell? ⟨lb, loff + (k + R), none⟩ = some (.int .i64 fv) := ((cur_new wr _).cell (p := ⟨lb, loff + (k + R), none⟩) (show lb < wr.heap.size by omega)).trans cl
      have hkl : k + R < ls.length := (List.getElem?_eq_some_iff.1 hf1).1
      have k0 : (wr.alloc (.cells #[.int .i64 R, .bool zk, .int .i64 zw] 56)).cell? ⟨wr.heap.size, 0, none⟩ = some (.int .i64 R) := (Blk.new wr 56 [.int .i64 R, .bool zk, .int .i64 zw]).cell 0
      have k2 : (wr.alloc (.cells #[.int .i64 R, .bool zk, .int .i64 zw] 56)).cell? ⟨wr.heap.size, 2, none⟩ = some (.int .i64 zw) := (Blk.new wr 56 [.int .i64 R, .bool zk, .int .i64 zw]).cell 2
      have hm0 : 0 ≤ zw * fv := Int.mul_nonneg (by omega) hf2
      have hr1 : -9223372036854775808 ≤ zw * fv ∧ zw * fv ≤ 9223372036854775807 := by omega
      have hr2 : -9223372036854775808 ≤ onS f (t.d.take j) + zw * fv ∧ onS f (t.d.take j) + zw * fv ≤ 9223372036854775807 := by omega
      have HT2 := Lib.hid (show onS f (t.d.take (j + 1)) = onS f (t.d.take j) + zw * fv by rw [HT.out, hfv])
      clear hcl hlc hz hmem hf1 hfv HT hp1
      go_wp2
      go_quiet (fail)
      go_wp2
      go_roundw
      case rel => exact ⟨j + 1, hlt, by simp, by rw [HT2.out], cur_step1 HB.out (below_drewN (cur_new _ _) _)⟩
      case measure => simp [intOf]; omega
    · have HV2 := Lib.hid (show onS f (t.d.take j) = v by rw [List.take_of_length_le (by omega), HV.out])
      go_wp2
      go_ret
      exact ⟨ret_int HV2.out, HB.out⟩
end Go.Proofs.YtkmkdknjpnkkpaaGreatDoor
