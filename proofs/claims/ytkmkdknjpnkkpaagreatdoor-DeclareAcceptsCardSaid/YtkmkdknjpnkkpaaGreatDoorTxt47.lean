/-
  Chapter 47: the text of a distribution.
-/
import Derived.Test.YtkmkdknjpnkkpaaGreatDoorNum47
import Derived.Test.YtkmkdknjpnkkpaaGreatDoorChk47
import Derived.Test.YtkmkdknjpnkkpaaGreatDoorApp
import Derived.Deep.RegionHeld3
set_option linter.unusedSimpArgs false
set_option linter.unusedVariables false
namespace Go.Proofs.YtkmkdknjpnkkpaaGreatDoor
open Go.RowKit
set_option maxRecDepth 100000
set_option maxHeartbeats 1000000
def stE (s : ByteArray) : List Value := [.string s]
theorem stE_len (s : ByteArray) : (stE s).length = 1 := rfl
theorem st_cell {w : World} {b off k : Nat} {x : ByteArray} (h : ∀ j u, (stE x)[j]? = some u → w.cell? ⟨b, off + k * 1 + j, none⟩ = some u) : w.cell? ⟨b, off + k, none⟩ = some (.string x) := by
  have := h 0 _ rfl
  simpa using this
def dD (n : Int) : ByteArray := ⟨(Lib.decDigits n.toNat).toArray⟩
def wordO (z : Oc) : ByteArray := dD z.r ++ (if z.k then ⟨#[87]⟩ else ⟨#[]⟩) ++ ⟨#[58]⟩ ++ dD z.w
theorem stElem : ElemOf Tryz.prog stE 1 16 60 9 := ElemOf.mk' (z := .string ByteArray.empty) (by kernel_rfl) rfl Tryz.underlying60 (by decide) stE_len (by intro x u hu; simp [stE] at hu; subst hu; rfl)
theorem word_no (R V : Nat) : wordO ⟨R, false, V⟩ = (⟨(Lib.decDigits R).toArray⟩ : ByteArray) ++ (⟨#[58]⟩ : ByteArray) ++ (⟨(Lib.decDigits V).toArray⟩ : ByteArray) := by
  unfold wordO dD
  simp only [Int.toNat_natCast]
  apply ByteArray.ext
  simp
theorem word_yes (R V : Nat) : wordO ⟨R, true, V⟩ = (⟨(Lib.decDigits R).toArray⟩ : ByteArray) ++ (⟨#[87]⟩ : ByteArray) ++ (⟨#[58]⟩ : ByteArray) ++ (⟨(Lib.decDigits V).toArray⟩ : ByteArray) := by
  unfold wordO dD
  simp only [Int.toNat_natCast, if_true]
theorem dd_len {u : Nat} (h : u < 100) : (⟨(Lib.decDigits u).toArray⟩ : ByteArray).size ≤ 2 := by
  show (Lib.decDigits u).toArray.size ≤ 2
  rw [List.size_toArray]
  by_cases h1 : u < 10
  · rw [Lib.decDigits, dif_pos h1]; simp
  · rw [Lib.decDigits, dif_neg h1, Lib.decDigits, dif_pos (by omega)]; simp
def TxR (d : List Oc) (w : World) (v i : Value) (wr : World) : Prop := ∃ k : Nat, ∃ ls : List ByteArray, k ≤ d.length ∧ i = .int .i64 k ∧ ls = (d.take k).map wordO ∧ OwnL stE 1 9 w.heap.size wr v ls ∧ Below w.heap.size w wr
theorem ctext_p (A : Option Addr) (c : Nat) (d : List Oc) (T : ByteArray) (w : World) (hl : d.length ≤ 1000000) (hr : Rd ocE 3 w w.heap.size A d) (hv : chT d = 0) (hT : (⟨(Lib.join ((d.map wordO).map (·.data.toList)) [32]).toArray⟩ : ByteArray) = T) (hTl : (Lib.join ((d.map wordO).map (·.data.toList)) [32]).length ≤ 140737488355328) :
    Calls Tryz.prog 44 #[.slice A d.length c] w fun e w' => e = .returned (.tuple #[.string T, .int .i64 0]) ∧ Below w.heap.size w w' := by
  have HR := Lib.hid hr
  have HT := Lib.hid hT
  have HTL := Lib.hid hTl
  have HE := Lib.hid (okD_of hv).each
  obtain ⟨hd1, hd2⟩ := (okD_of hv).len
  clear hr hT hTl
  go_enter Tryz.func44, Tryz.ntmps44
  go_wp2_with (go_at_call 31; refine (chk_p A c d 0 _ hl HR.out hv).mono ?_; rintro e w1 ⟨rfl, hb1⟩; have HB := Lib.hid hb1; clear hb1)
  go_loopw [5, 16] (TxR d w) (fun _ i _ => d.length - (intOf i).toNat)
  case atStart => exact ⟨0, [], by omega, rfl, rfl, ⟨rfl, .inl ⟨rfl, rfl⟩⟩, HB.out⟩
  case round =>
    obtain ⟨k, ls, hk, rfl, hls, hown, hb⟩ := hrel
    have HLS := Lib.hid hls
    clear HB
    have HB := Lib.hid hb
    clear hb
    obtain ⟨OA, oc, rfl, _, _⟩ := OwnL.rd stE_len hown
    have HO := Lib.hid hown
    have HOL := Lib.hid (show ls.length = k by rw [hls]; simp; omega)
    clear hls
    by_cases hlt : k < d.length
    · obtain ⟨z, hz⟩ : ∃ z, d[k]? = some z := ⟨_, List.getElem?_eq_getElem hlt⟩
      obtain ⟨b, off, rfl, hbb, hcl⟩ := HR.out.at_ HB.out hz
      obtain ⟨c0, c1, c2⟩ := oc_cells hcl
      have hez := HE.out z (List.mem_of_getElem? hz)
      have HNX := Lib.hid (show ls ++ [wordO z] = (d.take (k + 1)).map wordO by rw [HLS.out, List.take_add_one, hz]; simp)
      obtain ⟨zr, zk, zw⟩ := z
      simp only [] at hez c0 c1 c2
      obtain ⟨R, rfl⟩ : ∃ R : Nat, zr = R := ⟨zr.toNat, by omega⟩
      obtain ⟨V, rfl⟩ : ∃ V : Nat, zw = V := ⟨zw.toNat, by omega⟩
      obtain ⟨S1, hS1⟩ : ∃ S1 : ByteArray, (⟨(Lib.decDigits R).toArray⟩ : ByteArray) = S1 := ⟨_, rfl⟩
      obtain ⟨S2, hS2⟩ : ∃ S2 : ByteArray, (⟨(Lib.decDigits V).toArray⟩ : ByteArray) = S2 := ⟨_, rfl⟩
      have HS1 := Lib.hid hS1
      have HS2 := Lib.hid hS2
      have hbs := HB.out.size
      have hw1 : IntKind.i64.wrap (R : Int) = R := by rw [IntKind.wrap_i64]; omega
      have rowlt := World.ownsRow.lt HO.out
      have k0 : (wr.alloc (.cells #[.int .i64 R, .bool zk, .int .i64 V] 56)).cell? ⟨wr.heap.size, 0, none⟩ = some (.int .i64 R) := (Blk.new wr 56 [.int .i64 R, .bool zk, .int .i64 V]).cell 0
      have k1 : (wr.alloc (.cells #[.int .i64 R, .bool zk, .int .i64 V] 56)).cell? ⟨wr.heap.size, 1, none⟩ = some (.bool zk) := (Blk.new wr 56 [.int .i64 R, .bool zk, .int .i64 V]).cell 1
      have k2 : (wr.alloc (.cells #[.int .i64 R, .bool zk, .int .i64 V] 56)).cell? ⟨wr.heap.size, 2, none⟩ = some (.int .i64 V) := (Blk.new wr 56 [.int .i64 R, .bool zk, .int .i64 V]).cell 2
      have hbo := cur_new wr (.cells #[.int .i64 R, .bool zk, .int .i64 V] 56)
      have HOo := Lib.hid (own_mono (own_below HO.out hbo (Nat.le_refl _)) (Nat.le_refl _))
      have HBo := Lib.hid (cur_step1 HB.out hbo)
      clear hcl hz hown hbo hS1 hS2
      have n1 : (Value.slice OA ls.length oc).ownBlock ≠ some wr.heap.size := fun e => by have := rowlt _ e; omega
      have hz1 : S1.size ≤ 2 := by rw [← HS1.out]; exact dd_len (by omega)
      have hz2 : S2.size ≤ 2 := by rw [← HS2.out]; exact dd_len (by omega)
      have q1 : (9223372036854775807 < S1.size) = False := by simp; omega
      have q2 : (9223372036854775807 < S1.size + 1) = False := by simp; omega
      have q3 : (9223372036854775807 < S1.size + 1 + 1) = False := by simp; omega
      have q4 : (9223372036854775807 < S1.size + 1 + S2.size) = False := by simp; omega
      have q5 : (9223372036854775807 < S1.size + 1 + 1 + S2.size) = False := by simp; omega
      clear hz1 hz2
      cases zk
      · have HW := Lib.hid (show S1 ++ ⟨#[]⟩ ++ ⟨#[58]⟩ ++ S2 = wordO ⟨R, false, V⟩ by unfold wordO dD; simp only [Int.toNat_natCast]; rw [HS1.out, HS2.out]; rfl)
        go_wp2_with fail
        have l2 : wr.heap.size < (wr.alloc (.cells #[.int .i64 R, .bool false, .int .i64 V] 56)).heap.size := by simp
        generalize wr.alloc (.cells #[.int .i64 R, .bool false, .int .i64 V] 56) = w2 at *
        go_region_held3 (fun w' => w'.cell? ⟨wr.heap.size, 0, none⟩ = some (.int .i64 R) ∧ w'.cell? ⟨wr.heap.size, 2, none⟩ = some (.int .i64 V))
          (first
            | (go_keep; done)
            | (go_split_ands; refine ⟨?_, ?_⟩ <;> (rw [World.cell?_alloc_lt _ _ _ (by assumption)]; assumption))
            | (go_split_ands; refine ⟨?_, ?_⟩ <;> (rw [ha.far (by simp; omega) n1]; assumption)))
          (first
            | (go_at_call 55; refine (decimal_s R (by omega) _).mono ?_; rintro e wx ⟨rfl, rfl⟩; rw [HS1.out])
            | (go_at_call 55; refine (decimal_s V (by omega) _).mono ?_; rintro e wx ⟨rfl, rfl⟩; rw [HS2.out])
            | (refine step_app1 stElem _ (by rfl) _ _ (by rfl) w.heap.size OA oc ls (by rfl) ((World.ownsRow.alloc HOo.out _).drew) _ w2.heap.size 1 (by rfl) (heap_alloc_new w2 _) (by unfold maxLen; have := HOL.out; omega) (by have := HOL.out; omega) (by simp; omega) ?_; intro g cap w6 ha))
        rename_i hHeld
        have hend := app1_end HBo.out (fun k hk => (own_range HO.out k hk).1) ((cur_new w2 _).drew) ha
        have HEB := Lib.hid hend.1
        have HEO := Lib.hid hend.2
        clear hend ha hHeld k0 k1 k2 q1 q2 q3 q4 q5
        go_wp2_with fail
        go_roundw
        case rel => exact ⟨k + 1, ls ++ [wordO ⟨R, false, V⟩], hlt, by simp, HNX.out, by rw [← HW.out]; simpa using HEO.out, HEB.out⟩
        case measure => simp [intOf]; omega
      · have HW := Lib.hid (show S1 ++ ⟨#[87]⟩ ++ ⟨#[58]⟩ ++ S2 = wordO ⟨R, true, V⟩ by unfold wordO dD; simp only [Int.toNat_natCast]; rw [HS1.out, HS2.out]; rfl)
        go_wp2_with fail
        have l2 : wr.heap.size < (wr.alloc (.cells #[.int .i64 R, .bool true, .int .i64 V] 56)).heap.size := by simp
        generalize wr.alloc (.cells #[.int .i64 R, .bool true, .int .i64 V] 56) = w2 at *
        go_region_held3 (fun w' => w'.cell? ⟨wr.heap.size, 0, none⟩ = some (.int .i64 R) ∧ w'.cell? ⟨wr.heap.size, 2, none⟩ = some (.int .i64 V))
          (first
            | (go_keep; done)
            | (go_split_ands; refine ⟨?_, ?_⟩ <;> (rw [World.cell?_alloc_lt _ _ _ (by assumption)]; assumption))
            | (go_split_ands; refine ⟨?_, ?_⟩ <;> (rw [ha.far (by simp; omega) n1]; assumption)))
          (first
            | (go_at_call 55; refine (decimal_s R (by omega) _).mono ?_; rintro e wx ⟨rfl, rfl⟩; rw [HS1.out])
            | (go_at_call 55; refine (decimal_s V (by omega) _).mono ?_; rintro e wx ⟨rfl, rfl⟩; rw [HS2.out])
            | (refine step_app1 stElem _ (by rfl) _ _ (by rfl) w.heap.size OA oc ls (by rfl) ((World.ownsRow.alloc HOo.out _).drew) _ w2.heap.size 1 (by rfl) (heap_alloc_new w2 _) (by unfold maxLen; have := HOL.out; omega) (by have := HOL.out; omega) (by simp; omega) ?_; intro g cap w6 ha))
        rename_i hHeld
        have hend := app1_end HBo.out (fun k hk => (own_range HO.out k hk).1) ((cur_new w2 _).drew) ha
        have HEB := Lib.hid hend.1
        have HEO := Lib.hid hend.2
        clear hend ha hHeld k0 k1 k2 q1 q2 q3 q4 q5
        go_wp2_with fail
        go_roundw
        case rel => exact ⟨k + 1, ls ++ [wordO ⟨R, true, V⟩], hlt, by simp, HNX.out, by rw [← HW.out]; simpa using HEO.out, HEB.out⟩
        case measure => simp [intOf]; omega
    · have hkd : k = d.length := by omega
      have HLD := Lib.hid (show ls = d.map wordO by rw [HLS.out, hkd, List.take_length])
      obtain ⟨_, _, he, hrd, hz⟩ := OwnL.rd stE_len hown
      injection he with he _ hc2
      subst he hc2
      have hln : 0 < ls.length := by have := HOL.out; omega
      obtain ⟨b0, off0, rfl, hb0, hc0⟩ := hrd 0 ls[0] (List.getElem?_eq_getElem hln)
      obtain ⟨_, rfl⟩ := hz b0 off0 rfl
      have HCL := Lib.hid (show ∀ (j : Nat) x, ls[j]? = some x → wr.cell? ⟨b0, 0 + j, none⟩ = some (.string x) from fun j x hx => by
        obtain ⟨b1, off1, e1, _, hc1⟩ := hrd j x hx
        injection e1 with e1
        injection e1 with e11 e12 _
        subst e11; rw [← e12] at hc1
        exact st_cell hc1)
      have hcap : ls.length ≤ oc := own_cap hown
      clear hown hrd hc0 hz
      have HJ := Lib.hid (show Calls Tryz.prog 56 #[.slice (some ⟨b0, 0, none⟩) ls.length oc, .string ⟨#[32]⟩] wr fun e w' => e = .returned (.string T) ∧ Below wr.heap.size wr w' from
        (Tryz.join_p b0 0 oc ls ⟨#[32]⟩ wr HCL.out hb0 (by have := HOL.out; omega) hcap (by rw [HLD.out]; exact HTL.out)).mono fun e w' h => ⟨h.1.trans (by rw [HLD.out]; exact congrArg (fun z => Ending.returned (Value.string z)) HT.out), h.2⟩)
      go_wp2_with fail
      refine HJ.out.mono ?_
      rintro e w9 ⟨rfl, hb9⟩
      have HB9 := Lib.hid (cur_step1 HB.out hb9)
      clear hb9
      go_wp2_with fail
      go_ret2
      exact ⟨rfl, HB9.out⟩
end Go.Proofs.YtkmkdknjpnkkpaaGreatDoor
