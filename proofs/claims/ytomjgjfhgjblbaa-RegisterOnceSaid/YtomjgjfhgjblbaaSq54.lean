/-
  Chapter 54: Squad.
-/
import Derived.Test.YtomjgjfhgjblbaaLib54
import Derived.Test.YtomjgjfhgjblbaaLast54
import Derived.Test.YtomjgjfhgjblbaaStr
namespace Go.Proofs.Ytomjgjfhgjblbaa
open Go.RowKit
set_option maxRecDepth 100000
set_option maxHeartbeats 1000000
theorem Try.infoStr : (Try.prog.info? 9).map (fun i => (i.zero, i.size, i.bytes)) = some (some (.string ⟨#[]⟩), 1, 16) := by kernel_rfl
theorem Try.strElem : ElemOf Try.prog strE 1 16 29 9 := .mk' Try.infoStr rfl Try.underlying29 (by decide) strE_len (fun x u hu => by simp [strE] at hu; subst hu; rfl)
def SqR (w : World) (l : List Tr) (t : ByteArray) (d : Int) (o i : Value) (wr : World) : Prop := ∃ (k : Nat) (L : List Bs) (A : Option Addr) (c : Nat), k ≤ l.length ∧ i = .int .i64 k ∧ gathB l t d k = L ∧ o = .slice A L.length c ∧ OwnL strE 1 9 w.heap.size wr (.slice A L.length c) L ∧ Below w.heap.size w wr
theorem squad_p (A : Option Addr) (c : Nat) (l : List Tr) (t : ByteArray) (d : Int) (w : World) (hl : l.length ≤ 400) (hr : Rd trE 3 w w.heap.size A l) :
    Calls Try.prog 7 #[.slice A l.length c, .string t, .int .i64 d] w fun e w' => ∃ B cc, e = .returned (.slice B (squadB l t d).length cc) ∧ Rd strE 1 w' w'.heap.size B (squadB l t d) ∧ Below w.heap.size w w' := by
  have HR := Lib.hid hr
  clear hr
  go_enter Try.func7, Try.ntmps7
  go_wp2_with fail
  go_loopw [7, 12] (SqR w l t d) (fun _ i _ => l.length - (intOf i).toNat)
  case atStart => exact ⟨0, [], none, 0, Nat.zero_le _, rfl, by simp [gathB], rfl, World.ownsRow_nil _ _ _ _, Below.refl _ _⟩
  case round =>
    obtain ⟨k, L, A2, c2, hk, rfl, hn, rfl, hown, hB⟩ := hrel
    have HO := Lib.hid hown
    have HB := Lib.hid hB
    have HN := Lib.hid hn
    clear hown hB hn
    rcases Nat.lt_or_ge k l.length with hlt | hge
    · obtain ⟨z, hz⟩ : ∃ z, l[k]? = some z := ⟨_, List.getElem?_eq_getElem hlt⟩
      obtain ⟨b, off, rfl, hbb, hcl⟩ := HR.out.at_ HB.out hz
      obtain ⟨cp, ct, cd⟩ := tr_cells hcl
      have HG := Lib.hid (gath_at (t := t) (d := d) hz)
      have HRW := Lib.hid (HR.out.to HB.out)
      have hn2 : L.length ≤ k := by rw [← HN.out]; exact gath_len _ _ _ _
      have HN2 := Lib.hid hn2
      have hb1 := HB.out.size
      have et := isE_to t
      obtain ⟨u, hu⟩ : ∃ u, teamB l z.p d = u := ⟨_, rfl⟩
      have HU := Lib.hid hu
      have es := seq_to u t
      clear hcl hz hn2
      cases ht : isE t
      · cases hs : seq u t
        · rw [ht] at et
          rw [hs] at es
          have HE := Lib.hid (show gathB l t d (k + 1) = L by rw [HG.out, HU.out, ht, hs, ← HN.out]; simp)
          clear ht hs hu
          go_wp2_with (go_at_call 10; refine (team_p _ _ _ _ _ u _ (by omega) (HRW.out.to (cur_new _ _)) HU.out).mono ?_; (rintro e w4 ⟨rfl, hb4⟩))
          go_roundw
          case rel => exact ⟨k + 1, L, A2, c2, hlt, by simp, HE.out, rfl, own_below HO.out (cur_step0 hb4) (Nat.le_refl _), cur_step2 HB.out hb4⟩
          case measure => simp [intOf]; omega
        · rw [ht] at et
          rw [hs] at es
          have HE := Lib.hid (show gathB l t d (k + 1) = L ++ [z.p.data.toList] by rw [HG.out, HU.out, ht, hs, ← HN.out]; simp)
          clear ht hs hu
          go_wp2_with (first
            | (go_at_call 10; refine (team_p _ _ _ _ _ u _ (by omega) (HRW.out.to (cur_new _ _)) HU.out).mono ?_; (rintro e w4 ⟨rfl, hb4⟩); have hz4 := (Blk.new wr 27 [.string z.p, .string z.t, .int .i64 z.d]).to hb4; have e0 : w4.cell? ⟨wr.heap.size, 0, none⟩ = some (.string z.p) := hz4.cell 0; have hb5 := cur_step2 HB.out hb4; have ho5 := own_below HO.out (cur_step0 hb4) (Nat.le_refl _); have hs5 := hb5.size)
            | (at_builtin; refine wpList_app1 Try.strElem _ rfl (.tmp 27) (.tmp 30) rfl w.heap.size A2 c2 L rfl ?o1 z.p.data.toList w4.heap.size 1 rfl ?o2 ?o3 ?o4 ?o5 ?_))
          case o1 => exact own_below ho5 (cur_new _ _) (Nat.le_refl _)
          case o2 => exact heap_alloc_new _ _
          case o3 => unfold maxLen; have := HN2.out; omega
          case o4 => have := HN2.out; omega
          case o5 => simp; omega
          intro g cap w1 ha
          obtain ⟨hb2, ho2⟩ := app1_end hb5 (fun b hb => (own_range ho5 b hb).1) (cur_new _ _) ha
          have HO2 := Lib.hid ho2
          have HB2 := Lib.hid hb2
          clear ha ho2 hb2 ho5 hb5 hz4
          go_wp2_with fail
          go_roundw
          case rel => exact ⟨k + 1, L ++ [z.p.data.toList], some ⟨g, 0, none⟩, cap, hlt, by simp, HE.out, by simp, HO2.out, HB2.out⟩
          case measure => simp [intOf]; omega
      · rw [ht] at et
        have HE := Lib.hid (show gathB l t d (k + 1) = L by rw [HG.out, ht, ← HN.out]; simp)
        clear ht hu
        go_wp2_with fail
        go_roundw
        case rel => exact ⟨k + 1, L, A2, c2, hlt, by simp, HE.out, rfl, own_below HO.out (cur_new _ _) (Nat.le_refl _), cur_step1 HB.out (cur_new _ _)⟩
        case measure => simp [intOf]; omega
    · obtain rfl : k = l.length := by omega
      have HQ := Lib.hid (show squadB l t d = Lib.compact (sortB L) by rw [← HN.out]; rfl)
      have HL := Lib.hid (show L.length ≤ 400 by rw [← HN.out]; exact Nat.le_trans (gath_len _ _ _ _) hl)
      clear hge
      cases L with
      | nil =>
        have HS := Lib.hid (show squadB l t d = [] by rw [HQ.out]; simp [sortB, Lib.compact, Lib.compactUpTo])
        go_wp2_with (first
          | (go_at_call 14; refine (sort_n _ _ _).mono ?_; rintro e w4 ⟨rfl, rfl⟩)
          | (go_at_call 15; refine (compact_n _ _ _).mono ?_; rintro e w4 ⟨rfl, rfl⟩))
        go_ret
        rw [HS.out]
        exact ⟨A2, c2, rfl, Rd.nil_, HB.out⟩
      | cons x L' =>
        obtain ⟨n, hn⟩ : ∃ n, n = (x :: L').length := ⟨_, rfl⟩
        rcases HO.out.2 with ⟨e0, _⟩ | ⟨g, cap, cur, e0, hg0, _⟩
        · cases e0
        injection e0 with e1 _ e3
        subst e1 e3
        obtain ⟨L, hL⟩ : ∃ L, x :: L' = L := ⟨_, rfl⟩
        rw [hL] at HO HQ HL ⊢
        clear hL
        have hg1 : w.heap.size ≤ g := hg0
        go_wp2_with (first
          | (go_at_call 14; refine (sort_o _ w.heap.size g c2 L HO.out HL.out).mono ?_; rintro e w4 ⟨rfl, ho4, hg4⟩; have HO4 := Lib.hid ho4; clear ho4; have hl4 : L.length = (sortB L).length := (sortB_len L).symm; rw [hl4] at HO4 ⊢)
          | (go_at_call 15; refine (compact_o _ w.heap.size g c2 (sortB L) HO4.out (by rw [sortB_len]; exact HL.out)).mono ?_; rintro e w5 ⟨rfl, ho5, hg5⟩; have HO5 := Lib.hid ho5; clear ho5))
        go_ret
        rw [HQ.out]
        obtain ⟨A3, c3, e3, hrd, _⟩ := HO5.out.rd strE_len
        injection e3 with e31 e32 e33
        subst e31
        have hp := hrd.pre (Lib.compact (sortB L)).length
        rw [List.take_left] at hp
        have hw4 := HB.out.grown hg4 HB.out.size (fun k e => by injection e with e; omega)
        have hw5 := hw4.grown hg5 hw4.size (fun k e => by injection e with e; omega)
        exact ⟨some ⟨g, 0, none⟩, c2, rfl, hp, hw5⟩
end Go.Proofs.Ytomjgjfhgjblbaa
