/-
  Chapter 56: Parse of the reference.
-/
import Derived.Test.YtpninpohligomaaGreatDoorSpPa56
import Derived.Test.YtpninpohligomaaGreatDoorTx56
import Derived.Test.YtpninpohligomaaGreatDoorWords
import Derived.Test.YtpninpohligomaaGreatDoorNumRT
set_option linter.unusedSimpArgs false
set_option linter.unusedVariables false
namespace Go.Proofs.YtpninpohligomaaGreatDoor
open Go.RowKit
set_option maxRecDepth 100000
set_option maxHeartbeats 4000000
theorem Tryz.infoOfP : (Tryz.prog.info? 32).map (fun i => (i.zero, i.size, i.bytes)) = some (some (.agg #[.int .i64 0, .string ⟨#[]⟩, .int .i64 0, .int .i64 0]), 4, 40) := by kernel_rfl
theorem Tryz.ofElemP : ElemOf Tryz.prog ofE 4 40 22 32 := .mk' Tryz.infoOfP rfl Tryz.underlying22 (by decide) ofE_len (fun x u hu => by simp [ofE] at hu; rcases hu with rfl | rfl | rfl | rfl <;> rfl)
theorem splS_at {c : UInt8} {l : List UInt8} {k : Nat} {x : List UInt8} (h : (splitC c l)[k]? = some x) : (splS c l)[k]? = some (baT x) := by
  unfold splS
  rw [List.getElem?_map, h]; rfl
theorem splS_length (c : UInt8) (l : List UInt8) : (splS c l).length = (splitC c l).length := by simp [splS]
theorem baT_list (x : List UInt8) : (baT x).data.toList = x := by simp [baT]
theorem baT_size (x : List UInt8) : (baT x).size = x.length := by show x.toArray.size = _; simp
def PrR56 (R : List (List UInt8)) (W : List ByteArray) (A1 : Option Addr) (w : World) (v i : Value) (wr : World) : Prop := ∃ (k : Nat) (out : List Of) (A : Option Addr) (c : Nat), k ≤ R.length ∧ i = .int .i64 k ∧ v = .slice A out.length c ∧ rowsC (R.take k) = some out ∧ OwnL ofE 4 32 w.heap.size wr (.slice A out.length c) out ∧ Rd stE 1 wr wr.heap.size A1 W ∧ (∀ b, (Value.slice A out.length c).ownBlock = some b → A1 ≠ some ⟨b, 0, none⟩) ∧ Below w.heap.size w wr
theorem four_cells {w : World} {B : Nat} {A : Option Addr} {x0 x1 x2 x3 : ByteArray} (h : Rd stE 1 w B A [x0, x1, x2, x3]) : ∃ b off, A = some ⟨b, off, none⟩ ∧ b < B ∧ w.cell? ⟨b, off, none⟩ = some (.string x0) ∧ w.cell? ⟨b, off + 1, none⟩ = some (.string x1) ∧ w.cell? ⟨b, off + 2, none⟩ = some (.string x2) ∧ w.cell? ⟨b, off + 3, none⟩ = some (.string x3) := by
  obtain ⟨b, off, rfl, hb, h0⟩ := h 0 x0 rfl
  obtain ⟨b1, off1, e1, _, h1⟩ := h 1 x1 rfl
  obtain ⟨b2, off2, e2, _, h2⟩ := h 2 x2 rfl
  obtain ⟨b3, off3, e3, _, h3⟩ := h 3 x3 rfl
  injection e1 with e1; injection e1 with e1 f1; subst e1; subst f1
  injection e2 with e2; injection e2 with e2 f2; subst e2; subst f2
  injection e3 with e3; injection e3 with e3 f3; subst e3; subst f3
  exact ⟨b, off, rfl, hb, st_cell h0, st_cell h1, st_cell h2, st_cell h3⟩
theorem rd_far {w w' : World} {A1 : Option Addr} {W : List ByteArray} {base : Nat} {e : TypeId} {size : Nat} {v : Value} {g cap n m : Nat} {xs news : List Value} (h : Rd stE 1 w w.heap.size A1 W) (hA : ∀ b off, A1 = some ⟨b, off, none⟩ → off = 0) (ha : App w w' base e size v g cap n m xs news) (hne : ∀ b, v.ownBlock = some b → A1 ≠ some ⟨b, 0, none⟩) (hs : w.heap.size ≤ w'.heap.size) : Rd stE 1 w' w'.heap.size A1 W := by
  intro k x hx
  obtain ⟨b, off, e, hb, hc⟩ := h k x hx
  have := hA b off e
  subst this
  exact ⟨b, 0, e, by omega, fun j u hu => (ha.far hb fun e2 => hne b e2 e).trans (hc j u hu)⟩
theorem parse_r (s : ByteArray) (w : World) (hs : s.size ≤ 1000) :
    Calls Tryz.prog 13 #[.string s] w fun e w' => ∃ v, e = .returned (.tuple #[v, .int .i64 (ParC (splitC 10 s.data.toList).dropLast s.data.toList).2]) ∧ OwnL ofE 4 32 w.heap.size w' v (ParC (splitC 10 s.data.toList).dropLast s.data.toList).1 ∧ Below w.heap.size w w' := by
  have hsl : s.data.toList.length = s.size := by simp
  obtain ⟨hp1, hp2⟩ := splitC_small 10 s.data.toList
  have hne := splitC_ne 10 s.data.toList
  have hn1 : 1 ≤ (splitC 10 s.data.toList).length := by
    cases h : splitC 10 s.data.toList with
    | nil => exact absurd h hne
    | cons a b => simp
  have hsn := splS_length 10 s.data.toList
  obtain ⟨R, hR⟩ : ∃ R, (splitC 10 s.data.toList).dropLast = R := ⟨_, rfl⟩
  have hRl : R.length = (splitC 10 s.data.toList).length - 1 := by rw [← hR, List.length_dropLast]
  have HRat := Lib.hid (show ∀ (k : Nat) r, R[k]? = some r → (splS 10 s.data.toList)[k]? = some (baT r) ∧ r.length ≤ 1000 from fun k r hr => by
    have h1 : (splitC 10 s.data.toList)[k]? = some r := by
      have hk := (List.getElem?_eq_some_iff.1 hr).1
      rw [← hR, List.dropLast_eq_take, List.getElem?_take] at hr
      split at hr
      · exact hr
      · cases hr
    exact ⟨splS_at h1, by have := hp1 r (List.mem_of_getElem? h1); omega⟩)
  have HRs := Lib.hid (show ∀ r ∈ R, r.length ≤ 1000 from fun r hr => by
    obtain ⟨k, hk, rfl⟩ := List.getElem_of_mem hr
    exact (HRat.out k _ (List.getElem?_eq_getElem hk)).2)
  rw [hR]
  obtain ⟨n, hn⟩ : ∃ n, (splS 10 s.data.toList).length = n := ⟨_, rfl⟩
  have hnR : n = R.length + 1 := by omega
  have hn1000 : n ≤ 1001 := by omega
  have HN := Lib.hid hnR
  have hown0 : OwnL ofE 4 32 w.heap.size (w.alloc (.cells #[] 32)) (.slice (some ⟨w.heap.size, 0, none⟩) 0 0) [] := ⟨rfl, .inr ⟨w.heap.size, 0, #[], rfl, Nat.le_refl _, heap_alloc_new w _, Nat.le_refl _, by decide, rfl, rfl⟩⟩
  have HO0 := Lib.hid hown0
  clear hp1 hp2 hne hR hRl hsn hown0
  go_enter Tryz.func13, Tryz.ntmps13
  go_wp2_with fail
  refine (words_r s 10 _ (by omega)).mono ?_
  rintro e w1 ⟨v, rfl, hown1, hb1⟩
  obtain ⟨A1, c1, rfl, hrd1, ha1⟩ := OwnL.rd stE_len hown1
  have hcap1 := own_cap hown1
  rw [hn] at hcap1 ⊢
  have HB := Lib.hid (cur_step1 (cur_new w (.cells #[] 32)) hb1)
  have HO1 := Lib.hid (own_below HO0.out hb1 (Nat.le_refl _))
  have HRD := Lib.hid hrd1
  have hs3 : IntKind.i64.wrap ((n : Int) - 1) = (R.length : Int) := by rw [IntKind.wrap_i64]; omega
  have HA1 := Lib.hid (show ∀ b off, A1 = some ⟨b, off, none⟩ → off = 0 from fun b off e => (ha1 b off e).2)
  have h6 : (w.alloc (.cells #[] 32)).heap.size = w.heap.size + 1 := by unfold World.alloc; exact Array.size_push _
  have HNE := Lib.hid (show A1 ≠ some ⟨w.heap.size, 0, none⟩ from fun e => by
    have h5 := (ha1 _ _ e).1
    omega)
  clear hown1 hb1 hrd1 HO0 hn ha1
  go_wp2_with fail
  go_loopw [4, 26] (PrR56 R (splS 10 s.data.toList) A1 w) (fun _ i _ => R.length - (intOf i).toNat)
  case atStart => exact ⟨0, [], some ⟨w.heap.size, 0, none⟩, 0, by omega, rfl, rfl, rfl, HO1.out, HRD.out, fun b hb => by injection hb with hb; subst hb; exact HNE.out, HB.out⟩
  case round =>
    obtain ⟨k, out, A, cp, hk, rfl, rfl, hrw, hown, hrd, hne, hb⟩ := hrel
    clear HB HO1 HRD HNE
    have HO := Lib.hid hown
    have HB := Lib.hid hb
    have HRD := Lib.hid hrd
    have HNE := Lib.hid hne
    have HRW := Lib.hid hrw
    have hol := rowsC_size (n := 1000) hrw (fun r hr => HRs.out r (List.mem_of_mem_take hr))
    have hol2 := hol.2
    rw [List.length_take] at hol2
    have HOL := Lib.hid (show out.length = k by omega)
    clear hol2
    have hbs := hb.size
    clear hown hb hrd hne hrw hol
    by_cases hlt : k < R.length
    · obtain ⟨r, hr⟩ : ∃ r, R[k]? = some r := ⟨_, List.getElem?_eq_getElem hlt⟩
      obtain ⟨hrs, hrl⟩ := HRat.out k r hr
      obtain ⟨b, off, rfl, hbb, hcl⟩ := HRD.out.at_ (cur_here _) hrs
      have c0 := st_cell hcl
      have HR := Lib.hid hr
      clear hcl hrs hr
      go_wp2_with fail
      refine (words_r (baT r) 32 _ (by rw [baT_size]; omega)).mono ?_
      rintro e w2 ⟨v2, rfl, hown2, hb2⟩
      rw [baT_list] at hown2
      obtain ⟨A2, c2, rfl, hrd2, ha2⟩ := OwnL.rd stE_len hown2
      have hcap2 := own_cap hown2
      have HB2 := Lib.hid (cur_step1 HB.out hb2)
      have HX2 := Lib.hid hb2
      have HO2 := Lib.hid (own_below HO.out hb2 (Nat.le_refl _))
      have HRD2 := Lib.hid (HRD.out.to hb2)
      have hlen2 := splS_length 32 r
      obtain ⟨m, hm⟩ : ∃ m, (splS 32 r).length = m := ⟨_, rfl⟩
      rw [hm] at hcap2 hlen2 ⊢
      clear hown2 hb2 HO HRD
      by_cases hm4 : m = 4
      · subst hm4
        obtain ⟨a, b', c', d, hsp⟩ : ∃ a b c d, splitC 32 r = [a, b, c, d] := by
          match hq : splitC 32 r, hlen2 with
          | [a, b, c, d], _ => exact ⟨a, b, c, d, rfl⟩
        have hss : splS 32 r = [baT a, baT b', baT c', baT d] := by unfold splS; rw [hsp]; rfl
        rw [hss] at hrd2
        obtain ⟨x1, y1, hv1⟩ : ∃ x y, numP a 1 1099511627776 = (x, y) := ⟨_, _, rfl⟩
        obtain ⟨x2, y2, hv2⟩ : ∃ x y, numP c' 0 1000000 = (x, y) := ⟨_, _, rfl⟩
        obtain ⟨x3, y3, hv3⟩ : ∃ x y, numP d 1 8 = (x, y) := ⟨_, _, rfl⟩
        have hf : fldC (splitC 32 r) = if y1 = 0 ∧ y2 = 0 ∧ y3 = 0 then some ⟨x1, baT b', x2, x3⟩ else none := by
          rw [hsp]
          unfold fldC
          simp only [hv1, hv2, hv3]
        have hsz := (splitC_small 32 r).1
        rw [hsp] at hsz
        have s1 : (baT a).size ≤ 281474976710656 := by have := hsz a (by simp); rw [baT_size]; omega
        have s2 : (baT c').size ≤ 281474976710656 := by have := hsz c' (by simp); rw [baT_size]; omega
        have s3 : (baT d).size ≤ 281474976710656 := by have := hsz d (by simp); rw [baT_size]; omega
        obtain ⟨b2, off2, rfl, hbb2, q0, q1, q2, q3⟩ := four_cells hrd2
        clear hrd2 ha2 hss hsp hsz hlen2
        go_wp2_with fail
        refine (number_r (baT a) s1 1 1099511627776 (by decide) (by decide) _).mono ?_
        rintro e w3 ⟨rfl, hb3⟩
        rw [baT_list, hv1]
        have q1' := (hb3.cell (p := ⟨b2, off2 + 1, none⟩) hbb2).trans q1
        have q2' := (hb3.cell (p := ⟨b2, off2 + 2, none⟩) hbb2).trans q2
        have q3' := (hb3.cell (p := ⟨b2, off2 + 3, none⟩) hbb2).trans q3
        have hw3 := hb3.size
        clear q0 q1 q2 q3
        go_wp2_with fail
        refine (number_r (baT c') s2 0 1000000 (by decide) (by decide) _).mono ?_
        rintro e w4 ⟨rfl, hb4⟩
        rw [baT_list, hv2]
        have hl4 : b2 < w3.heap.size := by omega
        have q1 := (hb4.cell (p := ⟨b2, off2 + 1, none⟩) hl4).trans q1'
        have q3 := (hb4.cell (p := ⟨b2, off2 + 3, none⟩) hl4).trans q3'
        have hw4 := hb4.size
        clear q1' q2' q3'
        go_wp2_with fail
        refine (number_r (baT d) s3 1 8 (by decide) (by decide) _).mono ?_
        rintro e w5 ⟨rfl, hb5⟩
        rw [baT_list, hv3]
        have hl5 : b2 < w4.heap.size := by omega
        have q1' := (hb5.cell (p := ⟨b2, off2 + 1, none⟩) hl5).trans q1
        have hbo := hb3.trans ((hb4.mono hw3).trans (hb5.mono (by omega)))
        have HB5 := Lib.hid (cur_step1 HB2.out hbo)
        have HX5 := Lib.hid (cur_step1 HX2.out hbo)
        have HO5 := Lib.hid (own_below HO2.out hbo (Nat.le_refl _))
        have HRD5 := Lib.hid (HRD2.out.to hbo)
        clear q1 q3 hb3 hb4 hb5 hbo HB2 HO2 HRD2 s1 s2 s3 hv1 hv2 hv3
        by_cases hz : y1 = 0 ∧ y2 = 0 ∧ y3 = 0
        · rw [if_pos hz] at hf
          have g1 : (y1 != 0) = false := by rw [hz.1]; rfl
          have g2 : (y2 != 0) = false := by rw [hz.2.1]; rfl
          have g3 : (y3 != 0) = false := by rw [hz.2.2]; rfl
          clear hz
          have HN := Lib.hid (rowsC_next HR.out HRW.out hf)
          clear hf
          go_wp2_with (at_builtin; refine wpList_app1 Tryz.ofElemP _ rfl (.tmp 66) (.tmp 74) rfl w.heap.size A cp out rfl ?o1 ⟨x1, baT b', x2, x3⟩ w5.heap.size 1 rfl ?o2 ?o3 ?o4 ?o5 ?_)
          case o1 => exact own_below HO5.out (cur_new _ _) (Nat.le_refl _)
          case o2 => first | exact heap_alloc_new _ _ | exact (Array.getElem?_eq_some_iff.1 (heap_alloc_new _ _)).2
          case o3 => have := HOL.out; unfold maxLen; omega
          case o4 => have := HOL.out; omega
          case o5 => have := HB5.out.size; first | omega | (simp; omega)
          intro g2 cap w6 ha
          have hend1 := app1_end HB.out (fun b hb => (own_block_lt HO5.out hb).1) (cur_step1 (show Below wr.heap.size wr w5 from HX5.out) (cur_new w5 (.cells (ofE ⟨x1, baT b', x2, x3⟩).toArray 32))) ha
          have HO6 := Lib.hid hend1.2
          have HB6 := Lib.hid hend1.1
          have hrd6 := rd_far (HRD5.out.to (cur_new w5 _)) HA1.out ha HNE.out ha.grown.size
          have HRD6 := Lib.hid hrd6
          have HNE6 := Lib.hid (show ∀ b, (Value.slice (some ⟨g2, 0, none⟩) (out ++ [(⟨x1, baT b', x2, x3⟩ : Of)]).length cap).ownBlock = some b → _ ≠ some (⟨b, 0, none⟩ : Addr) from fun b hb => by
            injection hb with hb
            subst hb
            rcases ha.at_ with h | h
            · exact HNE.out _ h
            · intro e
              injection e with e; injection e with e _ _
              have h8 : w5.heap.size ≤ g2 := by rw [h]; exact (cur_new w5 _).size
              have h9 := HX5.out.size
              have e9 : b = g2 := e
              omega)
          clear ha hend1 hrd6
          go_wp2_with fail
          go_roundw
          case rel => exact ⟨k + 1, out ++ [⟨x1, baT b', x2, x3⟩], some ⟨g2, 0, none⟩, cap, hlt, by simp, by simp, HN.out, by simpa using HO6.out, HRD6.out, HNE6.out, HB6.out⟩
          case measure => simp [intOf] <;> omega
        · rw [if_neg hz] at hf
          have HN := Lib.hid (show rowsC R = none from rowsC_bad HR.out hf)
          clear hf
          have hcs : (y1 != 0) = true ∨ ((y1 != 0) = false ∧ (y2 != 0) = true) ∨ ((y1 != 0) = false ∧ (y2 != 0) = false ∧ (y3 != 0) = true) := by
            simp only [bne_iff_ne, ne_eq, bne_eq_false_iff_eq]
            omega
          clear hz
          rcases hcs with g1 | ⟨g1, g2⟩ | ⟨g1, g2, g3⟩ <;>
          · go_wp2_with fail
            go_ret2
            unfold ParC
            rw [HN.out]
            exact ⟨_, rfl, ⟨rfl, .inl ⟨rfl, rfl⟩⟩, HB5.out⟩
      · have e1 : ((m : Int) != 4) = true := by simp; omega
        have HN := Lib.hid (show rowsC R = none from rowsC_bad HR.out (by
          unfold fldC
          split
          · next a b c d hs => rw [hs] at hlen2; simp at hlen2; omega
          · rfl))
        clear hrd2 ha2
        go_wp2_with fail
        go_ret2
        unfold ParC
        rw [HN.out]
        exact ⟨_, rfl, ⟨rfl, .inl ⟨rfl, rfl⟩⟩, HB2.out⟩
    · have hke : k = R.length := by omega
      subst hke
      have hRW := HRW.out
      rw [List.take_length] at hRW
      have hz1 := (rowsC_size (n := 1000) hRW HRs.out).1
      have hcap := own_cap HO.out
      obtain ⟨A3, c3, e3, hrd3, _⟩ := OwnL.rd ofE_len HO.out
      injection e3 with e3 _ e5
      subst e3
      have hle9 : out.length ≤ 2000 := by have := HOL.out; omega
      obtain ⟨T, eT, hT⟩ : ∃ T e, TxtC out = (T, e) := ⟨_, _, rfl⟩
      have HT := Lib.hid hT
      have HRW2 := Lib.hid hRW
      have HZ1 := Lib.hid hz1
      have HRD3 := Lib.hid hrd3
      clear hRW hT e5 hz1 hrd3
      go_wp2_with fail
      refine (text_r A cp out _ hle9 HRD3.out hcap (fun z hz => by have := HZ1.out z hz; omega)).mono ?_
      rintro e w2 ⟨rfl, hb2⟩
      have HB2 := Lib.hid (cur_step1 HB.out hb2)
      have HO2 := Lib.hid (own_below HO.out hb2 (Nat.le_refl _))
      rw [HT.out]
      (try simp only [])
      clear hb2 hle9
      by_cases g : eT = 0
      · have g1 : (eT != 0) = false := by rw [g]; rfl
        by_cases g5 : T = s.data.toList
        · have g2 : (T == s.toList) = true := by rw [ByteArray.toList_eq, g5]; simp
          have HP := Lib.hid (show ParC R s.data.toList = (out, 0) by unfold ParC; rw [HRW2.out]; simp only []; rw [HT.out, if_pos ⟨g, g5⟩])
          clear g5
          go_wp2_with fail
          go_ret2
          rw [HP.out]
          exact ⟨_, rfl, HO2.out, HB2.out⟩
        · have g2 : (T == s.toList) = false := by rw [ByteArray.toList_eq]; exact beq_false_of_ne g5
          have HP := Lib.hid (show ParC R s.data.toList = ([], 4) by unfold ParC; rw [HRW2.out]; simp only []; rw [HT.out, if_neg (fun h => g5 h.2)])
          clear g5
          go_wp2_with fail
          go_ret2
          rw [HP.out]
          exact ⟨_, rfl, ⟨rfl, .inl ⟨rfl, rfl⟩⟩, HB2.out⟩
      · have g1 : (eT != 0) = true := by simpa using g
        have HP := Lib.hid (show ParC R s.data.toList = ([], 4) by unfold ParC; rw [HRW2.out]; simp only []; rw [HT.out, if_neg (fun h => g h.1)])
        clear g
        go_wp2_with fail
        go_ret2
        rw [HP.out]
        exact ⟨_, rfl, ⟨rfl, .inl ⟨rfl, rfl⟩⟩, HB2.out⟩
end Go.Proofs.YtpninpohligomaaGreatDoor
