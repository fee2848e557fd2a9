/-
  Chapter 47: chance.Parse of a good text.
-/
import Derived.Test.YtkmkdknjpnkkpaaGreatDoorTxt47
set_option linter.unusedSimpArgs false
set_option linter.unusedVariables false
namespace Go.Proofs.YtkmkdknjpnkkpaaGreatDoor
open Go.RowKit
set_option maxRecDepth 100000
set_option maxHeartbeats 1000000
structure PW (x : ByteArray) (o : Oc) (a b a' : ByteArray) (f : Bool) : Prop where
  hx : x.size ≤ 100
  ha : (⟨(Lib.cut x.data.toList [58]).1.toArray⟩ : ByteArray) = a
  hb : (⟨(Lib.cut x.data.toList [58]).2.1.toArray⟩ : ByteArray) = b
  hf : (Lib.cut x.data.toList [58]).2.2 = f
  sz : a.size ≤ 100 ∧ a'.size ≤ 100 ∧ b.size ≤ 100
  ha' : (⟨(Lib.trimSuffix a.data.toList [87]).toArray⟩ : ByteArray) = a'
  hk : Lib.hasSuffix a.data.toList [87] = o.k
  n1 : numOk a'.data.toList = true
  p1 : Lib.parseIntB 64 a'.data.toList = .ok o.r
  n2 : numOk b.data.toList = true
  p2 : Lib.parseIntB 64 b.data.toList = .ok o.w
  hr : 0 ≤ o.r ∧ o.r ≤ 7
  hw : 1 ≤ o.w ∧ o.w ≤ 16
theorem ocElem : ElemOf Tryz.prog ocE 3 24 22 56 := ElemOf.mk' (z := .agg #[.int .i64 0, .bool false, .int .i64 0]) (by kernel_rfl) rfl Tryz.underlying22 (by decide) ocE_len (by intro x u hu; simp [ocE] at hu; rcases hu with rfl | rfl | rfl <;> rfl)
def PaR (os : List Oc) (w w1 : World) (v i : Value) (wr : World) : Prop := ∃ k : Nat, ∃ ls : List Oc, k ≤ os.length ∧ i = .int .i64 k ∧ ls = os.take k ∧ OwnL ocE 3 56 w1.heap.size wr v ls ∧ Below w1.heap.size w1 wr
theorem cparse_p (s : ByteArray) (ws : List ByteArray) (os : List Oc) (mx : Int) (w : World) (hs : s.size ≤ 1000) (hsp : Lib.splitB ⟨#[32]⟩ 0 (Lib.countB s ⟨#[32]⟩) s = ws) (hwl : Lib.countB s ⟨#[32]⟩ + 1 = ws.length) (hol : os.length = ws.length)
    (hpw : ∀ (k : Nat) (x : ByteArray), ws[k]? = some x → ∃ (o : Oc) (a b a' : ByteArray) (f : Bool), os[k]? = some o ∧ PW x o a b a' f) (hck : chT os = 0) (hT : (⟨(Lib.join ((os.map wordO).map (·.data.toList)) [32]).toArray⟩ : ByteArray) = s) (hTl : (Lib.join ((os.map wordO).map (·.data.toList)) [32]).length ≤ 140737488355328)
    (hm : w.cell? ⟨0, 0, none⟩ = some (.int .i64 mx)) :
    Calls Tryz.prog 24 #[.string s] w fun e w' => ∃ v, e = .returned (.tuple #[v, .int .i64 0]) ∧ OwnL ocE 3 56 w.heap.size w' v os ∧ Below w.heap.size w w' := by
  have HOW0 := Lib.hid hol
  have HS := Lib.hid hsp
  have HWL := Lib.hid hwl
  have HP := Lib.hid hpw
  have HT := Lib.hid hT
  have HTL := Lib.hid hTl
  have HM := Lib.hid hm
  have hml := Lib.lt_of_cell hm
  obtain ⟨hd1, hd2⟩ := (okD_of hck).len
  have HSPL := Lib.hid (show Calls Tryz.prog 40 #[.string s, .string ⟨#[32]⟩] w fun e w' => e = .returned (.slice (some ⟨w.heap.size, 0, none⟩) ws.length ws.length) ∧ w' = w.alloc (.cells (ws.map Value.string).toArray 9) from
    (Tryz.split_p s ⟨#[32]⟩ mx w (by omega) hm (by decide)).mono fun e w' h => ⟨by rw [h.1, hwl], by rw [h.2, hsp]⟩)
  clear hsp hwl hpw hT hTl hm hol
  go_enter Tryz.func24, Tryz.ntmps24
  go_wp2_with (go_at_call 40; refine HSPL.out.mono ?_; rintro e w1 ⟨rfl, hw1⟩; have hb1 : Below w.heap.size w w1 := (by rw [hw1]; exact cur_new _ _); have hq1 : Blk w1 w.heap.size 9 (ws.map Value.string) := (by rw [hw1]; exact Blk.new _ _ _); have HB1 := Lib.hid hb1; have HQ1 := Lib.hid hq1; clear hw1 hb1 hq1)
  clear HSPL
  have l1 := HQ1.out.lt
  go_loopw [4, 20] (PaR os w w1) (fun _ i _ => os.length - (intOf i).toNat)
  case atStart => exact ⟨0, [], by omega, rfl, rfl, ⟨rfl, .inl ⟨rfl, rfl⟩⟩, Below.refl _ _⟩
  case round =>
    obtain ⟨k, ls, hk, rfl, hls, hown, hb⟩ := hrel
    obtain ⟨OA, oc, rfl, hrd, _⟩ := OwnL.rd ocE_len hown
    have HRD := Lib.hid hrd
    have HO := Lib.hid hown
    have HB := Lib.hid hb
    have HLS := Lib.hid hls
    have HOL := Lib.hid (show ls.length = k by rw [hls]; simp; omega)
    have hbs := hb.size
    clear hown hb hls hrd
    by_cases hlt : k < os.length
    · obtain ⟨x, hx⟩ : ∃ x, ws[k]? = some x := ⟨_, List.getElem?_eq_getElem (by have := HOW0.out; omega)⟩
      obtain ⟨o, a, b, a', f, ho, hp⟩ := HP.out k x hx
      have HPW := Lib.hid hp
      have hltw : k < ws.length := by have := HOW0.out; omega
      have cx : wr.cell? ⟨w.heap.size, k, none⟩ = some (.string x) := by
        rw [(HQ1.out.to HB.out).cell, List.getElem?_map, hx]; rfl
      have HNX := Lib.hid (show ls ++ [o] = os.take (k + 1) by rw [HLS.out, List.take_add_one, ho]; simp)
      have hxs := hp.hx
      have hsz := hp.sz
      have hr := hp.hr
      have hw := hp.hw
      have hmw := (cur_step1 HB1.out HB.out).cell (p := ⟨0, 0, none⟩) hml
      rw [HM.out] at hmw
      have hw1 : IntKind.i64.wrap o.r = o.r := by rw [IntKind.wrap_i64]; omega
      have HCUT := Lib.hid (show Calls Tryz.prog 41 #[.string x, .string ⟨#[58]⟩] wr fun e w' => e = .returned (.tuple #[.string a, .string b, .bool f]) ∧ Below wr.heap.size wr w' from
        (Tryz.cut_p x ⟨#[58]⟩ mx wr (by omega) hmw).mono fun e w' h => ⟨by rw [h.1, ← hp.ha, ← hp.hb, ← hp.hf], h.2⟩)
      have HSUF := Lib.hid (show ∀ w, Calls Tryz.prog 42 #[.string a, .string ⟨#[87]⟩] w fun e w' => e = .returned (.tuple #[.string a', .bool o.k]) ∧ w = w' from fun w =>
        (Tryz.csuf_p a ⟨#[87]⟩ w (by omega)).mono fun e w' h => ⟨by rw [h.1, ← hp.ha', ← hp.hk], h.2⟩)
      have HN1 := Lib.hid (show ∀ w, Calls Tryz.prog 43 #[.string a', .int .i64 0, .int .i64 7] w fun e w' => e = .returned (.tuple #[.int .i64 o.r, .int .i64 0]) ∧ Below w.heap.size w w' from fun w =>
        number_ok a' (by omega) 0 7 o.r hp.n1 hp.p1 hr.1 hr.2 w)
      have HN2 := Lib.hid (show ∀ w, Calls Tryz.prog 43 #[.string b, .int .i64 1, .int .i64 16] w fun e w' => e = .returned (.tuple #[.int .i64 o.w, .int .i64 0]) ∧ Below w.heap.size w w' from fun w =>
        number_ok b (by omega) 1 16 o.w hp.n2 hp.p2 hw.1 hw.2 w)
      clear hx ho hp HPW hmw
      go_wp2_with fail
      refine HCUT.out.mono ?_
      rintro e w2 ⟨rfl, hb2⟩
      have HB2 := Lib.hid hb2
      clear hb2 HCUT
      go_wp2_with fail
      refine (HSUF.out _).mono ?_
      rintro e w3 ⟨rfl, rfl⟩
      clear HSUF
      go_wp2_with fail
      refine (HN1.out _).mono ?_
      rintro e w4 ⟨rfl, hb4⟩
      have HB4 := Lib.hid (cur_step1 HB2.out hb4)
      clear hb4 HN1
      go_wp2_with fail
      refine (HN2.out _).mono ?_
      rintro e w5 ⟨rfl, hb5⟩
      have HB5 := Lib.hid (cur_step1 HB4.out hb5)
      clear hb5 HN2
      have HO5 := Lib.hid (own_mono (own_below HO.out HB5.out (Nat.le_refl _)) (Nat.le_refl _))
      have hb5s := HB5.out.size
      go_wp2_with (refine wpList_app1 ocElem _ rfl _ _ rfl w1.heap.size OA oc ls rfl (World.ownsRow.alloc HO5.out _) o w5.heap.size 1 rfl (heap_alloc_new w5 _) (by unfold maxLen; have := HOL.out; omega) (by have := HOL.out; omega) (by simp; omega) ?_; intro g cap w6 ha)
      have hend := app1_end HB.out (fun k hk => (own_range HO.out k hk).1) (cur_step1 HB5.out (cur_new w5 _)) ha
      refine ⟨⟨k + 1, ls ++ [o], hlt, by simp, HNX.out, by simpa using hend.2, hend.1⟩, ?_⟩
      simp [intOf]; omega
    · have hke : k = os.length := by omega
      have hnlt : ¬ k < ws.length := by have := HOW0.out; omega
      have HLO := Lib.hid (show ls = os by rw [HLS.out, hke, List.take_length])
      have HTX := Lib.hid (ctext_p OA oc os s wr (by omega) (by rw [← HLO.out]; exact HRD.out) hck HT.out HTL.out)
      have HLL := Lib.hid (show Value.slice OA ls.length oc = .slice OA os.length oc by rw [HLO.out])
      have HOW := Lib.hid (show OwnL ocE 3 56 w.heap.size wr (.slice OA ls.length oc) os by rw [← HLO.out]; exact own_mono HO.out HB1.out.size)
      have HBw := Lib.hid (cur_step1 HB1.out HB.out)
      rw [HLL.out] at HOW ⊢
      clear hck
      go_wp2_with fail
      refine HTX.out.mono ?_
      rintro e w6 ⟨rfl, hb6⟩
      have HB6 := Lib.hid hb6
      clear hb6
      go_wp2_with fail
      go_ret2
      exact ⟨_, rfl, own_below HOW.out HB6.out (Nat.le_refl _), cur_step1 HBw.out HB6.out⟩
end Go.Proofs.YtkmkdknjpnkkpaaGreatDoor
