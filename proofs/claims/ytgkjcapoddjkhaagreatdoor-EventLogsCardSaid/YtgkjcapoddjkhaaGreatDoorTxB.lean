/-
  Chapter 3: a quoted string, read by the program.
-/
import Derived.Test.YtgkjcapoddjkhaaGreatDoorTxA
import Derived.Laws.BytesArg
import Derived.OwnWalk
set_option linter.unusedSimpArgs false
set_option linter.unusedVariables false
namespace Go.Proofs.YtgkjcapoddjkhaaGreatDoor
open Go.RowKit
set_option maxRecDepth 100000
set_option maxHeartbeats 4000000
def byE (b : UInt8) : List Value := [.int .u8 b.toNat]
theorem byE_len (b : UInt8) : (byE b).length = 1 := rfl
theorem Tryz.infoBy : (Tryz.prog.info? 5).map (fun i => (i.zero, i.size, i.bytes)) = some (some (.int .u8 0), 1, 1) := by kernel_rfl
theorem Tryz.byElem : ElemOf Tryz.prog byE 1 1 84 5 := .mk' Tryz.infoBy rfl Tryz.underlying84 (by decide) byE_len (fun x u hu => by simp [byE] at hu; subst hu; rfl)
theorem conv_own {base : Nat} {w : World} {v : Value} {l : List UInt8} (h : OwnL byE 1 5 base w v l) : (convert 84 9 v).run Tryz.prog w = .ok (.string (sA l)) w := by
  obtain ⟨A, c, rfl, hrd, hb⟩ := OwnL.rd byE_len h
  cases A with
  | none =>
    cases l with
    | nil => exact run_convert_bytes_nil w _ _ Tryz.underlying84 Tryz.underlying5 _ _ _ Tryz.underlying9
    | cons x l => obtain ⟨b, off, e, _⟩ := hrd 0 x rfl; cases e
  | some A =>
    refine run_convert_bytes_back w _ _ _ A c l Tryz.underlying84 Tryz.underlying5 Tryz.underlying9 fun j hj => ?_
    obtain ⟨b, off, e, _, hc⟩ := hrd j l[j] (List.getElem?_eq_getElem hj)
    injection e with e
    subst e
    have := hc 0 _ rfl
    rw [Addr.add_lit]
    simpa using this
theorem own_base {w : World} {base e size n : Nat} {v : Value} {xs : List Value} (h : w.ownsRow base e size v n xs) : ∀ k, v.ownBlock = some k → base ≤ k := fun k hk => by
  rcases h.2 with ⟨rfl, _⟩ | ⟨g, cap, cur, rfl, hb, _⟩
  · cases hk
  · injection hk with hk
    subst hk
    exact hb
theorem sA_sz (l : List UInt8) : (sA l).size = l.length := rfl
theorem drop_cons {l r : List UInt8} {j : Nat} {c : UInt8} (h : l.drop j = c :: r) : j < l.length ∧ l[j]? = some c ∧ l.drop (j + 1) = r := by
  have hj : j < l.length := by
    rcases Nat.lt_or_ge j l.length with h1 | h1
    · exact h1
    · rw [List.drop_eq_nil_of_le h1] at h; cases h
  refine ⟨hj, ?_, ?_⟩
  · have := List.getElem?_drop (xs := l) (i := j) (j := 0)
    rw [h] at this
    simpa using this.symm
  · rw [← List.tail_drop, h]; rfl
theorem sA_at {l : List UInt8} {s : ByteArray} (hs : sA l = s) {j : Nat} {c : UInt8} (h : l[j]? = some c) : ∃ hz : j < s.size, s[j]'hz = c := by
  subst hs
  have hj := (List.getElem?_eq_some_iff.1 h)
  obtain ⟨h1, h2⟩ := hj
  refine ⟨by rw [sA_sz]; exact h1, ?_⟩
  show (sA l).data[j] = c
  simp [sA, h2]
def QuR (l : List UInt8) (i : Nat) (Q : List UInt8 × Nat × Bool) (w : World) (v jv : Value) (wr : World) : Prop := ∃ (j : Nat) (acc : List UInt8) (A : Option Addr) (cp : Nat), j ≤ l.length ∧ acc.length ≤ j ∧ jv = .int .i64 j ∧ v = .slice A acc.length cp ∧ OwnL byE 1 5 w.heap.size wr (.slice A acc.length cp) acc ∧ quoL j acc (l.drop j) = Q ∧ Below w.heap.size w wr
theorem quoted_p (l : List UInt8) (hl : l.length ≤ 1000000) (i : Nat) (hi : i < l.length) (w : World) : Calls Tryz.prog 93 #[.string (sA l), .int .i64 i] w fun e w' => e = .returned (.tuple #[.string (sA (quoL (i + 1) [] (l.drop (i + 1))).1), .int .i64 (quoL (i + 1) [] (l.drop (i + 1))).2.1, .bool (quoL (i + 1) [] (l.drop (i + 1))).2.2]) ∧ Below w.heap.size w w' := by
  obtain ⟨Q, hQ⟩ : ∃ Q, quoL (i + 1) [] (l.drop (i + 1)) = Q := ⟨_, rfl⟩
  rw [hQ]
  obtain ⟨s, hs⟩ : ∃ s, sA l = s := ⟨_, rfl⟩
  have hsz : s.size = l.length := by rw [← hs, sA_sz]
  rw [hs]
  have HS := Lib.hid hs
  have HQ := Lib.hid hQ
  clear hs hQ
  go_enter Tryz.func93, Tryz.ntmps93
  go_wp2_with (fail)
  go_loopw [7, 8] (QuR l i Q w) (fun _ j _ => l.length - (intOf j).toNat)
  case atStart => exact ⟨i + 1, [], none, 0, by omega, by simp, rfl, rfl, World.ownsRow_nil _ _ _ _, HQ.out, Below.refl _ _⟩
  case round =>
    obtain ⟨j, acc, A, cp, hj, hac, rfl, rfl, hown, hq, hb⟩ := hrel
    have HO := Lib.hid hown
    have HB := Lib.hid hb
    clear hown hb
    rcases hr : l.drop j with _ | ⟨c, r⟩
    · have hjl : j = l.length := by have := congrArg List.length hr; simp at this; omega
      have HQ2 := Lib.hid (show Q = ([], j, false) by rw [← hq, hr]; rfl)
      clear hq hr
      have hlt : decide ((j : Int) < s.size) = false := by simp; omega
      subst hjl
      go_wp2_with (fail)
      go_ret3
      rw [HQ2.out]
      exact ⟨rfl, HB.out⟩
    · obtain ⟨hj1, hc, hr1⟩ := drop_cons hr
      have HX := Lib.hid HS.out
      obtain ⟨hz, hsj⟩ := sA_at HS.out hc
      have h256 : c.toNat < 256 := c.toNat_lt
      have hlt : decide ((j : Int) < s.size) = true := by simp; omega
      by_cases h34 : c = 34
      · subst h34
        have g1 : ((((34 : UInt8).toNat : Nat) : Int) == 34) = true := rfl
        rcases r with _ | ⟨d, r⟩
        · have hjl : j + 1 = l.length := by have := congrArg List.length hr; simp at this; omega
          have g2 : (((j : Int) + 1) == (s.size : Int)) = true := by simp; omega
          have kc := conv_own HO.out
          have HQ2 := Lib.hid (show Q = (acc, l.length, true) by rw [← hjl, ← hq, hr]; rfl)
          clear hq
          go_wp2_with (fail)
          go_ret3
          rw [HQ2.out]
          exact ⟨rfl, HB.out⟩
        · obtain ⟨hj2, hd, hr2⟩ := drop_cons hr1
          obtain ⟨hz2, hsj2⟩ := sA_at HS.out hd
          have g2 : (((j : Int) + 1) == (s.size : Int)) = false := by simp; omega
          by_cases hd34 : d = 34
          · subst hd34
            have g3 : ((((34 : UInt8).toNat : Nat) : Int) != 34) = false := rfl
            have HQ2 := Lib.hid (show quoL (j + 2) (acc ++ [34]) (l.drop (j + 2)) = Q by rw [← hq, hr, hr2]; rfl)
            clear hq
            go_wp2_with (at_builtin; refine wpList_app1 Tryz.byElem _ rfl (.tmp 54) (.tmp 58) rfl w.heap.size A cp acc rfl ?o1 34 wr.heap.size 1 rfl ?o2 ?o3 ?o4 ?o5 ?_)
            case o1 => exact World.ownsRow.alloc HO.out _
            case o2 => first | exact heap_alloc_new _ _ | exact (Array.getElem?_eq_some_iff.1 (heap_alloc_new _ _)).2
            case o3 => unfold maxLen; omega
            case o4 => omega
            case o5 => first | (have := HB.out.size; omega) | (have := HB.out.size; simp; omega)
            intro g cap w6 ha
            obtain ⟨hb6, ho6⟩ := app1_end HB.out (own_base HO.out) (cur_new _ _) ha
            rw [List.length_append] at ho6
            have HB6 := Lib.hid hb6
            have HO6 := Lib.hid ho6
            clear ha hb6 ho6
            go_wp2_with (fail)
            exact ⟨⟨j + 2, acc ++ [34], some ⟨g, 0, none⟩, cap, by omega, by simp; omega, rfl, by simp, by have := HO6.out; simpa using this, HQ2.out, HB6.out⟩, by show l.length - (j + 2) < l.length - j; omega⟩
          · have g3 : ((d.toNat : Int) != 34) = true := by simp; intro h; exact hd34 (UInt8.toNat.inj (by simpa using (by omega : d.toNat = 34)))
            have kc := conv_own HO.out
            have HQ2 := Lib.hid (show Q = (acc, j + 1, true) by rw [← hq, hr, quoL, if_pos rfl, if_neg hd34])
            clear hq
            go_wp2_with (fail)
            go_ret3
            rw [HQ2.out]
            exact ⟨rfl, HB.out⟩
      · have g1 : ((c.toNat : Int) == 34) = false := by simp; intro h; exact h34 (UInt8.toNat.inj (by simpa using (by omega : c.toNat = 34)))
        go_wp2_with (fail)
        refine (printed_p c wr).mono ?_
        rintro e w1 ⟨rfl, rfl⟩
        by_cases hp : printC c = true
        · rw [hp]
          have HQ2 := Lib.hid (show quoL (j + 1) (acc ++ [c]) (l.drop (j + 1)) = Q by rw [← hq, hr, hr1]; cases r with | nil => simp [quoL, h34, hp] | cons d r => simp [quoL, h34, hp])
          clear hq hp
          go_wp2_with (at_builtin; refine wpList_app1 Tryz.byElem _ rfl (.tmp 54) (.tmp 58) rfl w.heap.size A cp acc rfl ?o1 c wr.heap.size 1 rfl ?o2 ?o3 ?o4 ?o5 ?_)
          case o1 => exact World.ownsRow.alloc HO.out _
          case o2 => first | exact heap_alloc_new _ _ | exact (Array.getElem?_eq_some_iff.1 (heap_alloc_new _ _)).2
          case o3 => unfold maxLen; omega
          case o4 => omega
          case o5 => first | (have := HB.out.size; omega) | (have := HB.out.size; simp; omega)
          intro g cap w6 ha
          obtain ⟨hb6, ho6⟩ := app1_end HB.out (own_base HO.out) (cur_new _ _) ha
          rw [List.length_append] at ho6
          have HB6 := Lib.hid hb6
          have HO6 := Lib.hid ho6
          clear ha hb6 ho6
          go_wp2_with (fail)
          exact ⟨⟨j + 1, acc ++ [c], some ⟨g, 0, none⟩, cap, by omega, by simp; omega, rfl, by simp, by have := HO6.out; simpa using this, HQ2.out, HB6.out⟩, by show l.length - (j + 1) < l.length - j; omega⟩
        · have hp : printC c = false := by simpa using hp
          rw [hp]
          have HQ2 := Lib.hid (show Q = ([], j, false) by rw [← hq, hr]; cases r with | nil => simp [quoL, h34, hp] | cons d r => simp [quoL, h34, hp])
          clear hq hp
          go_wp2_with (fail)
          go_ret3
          rw [HQ2.out]
          exact ⟨rfl, HB.out⟩
end Go.Proofs.YtgkjcapoddjkhaaGreatDoor
