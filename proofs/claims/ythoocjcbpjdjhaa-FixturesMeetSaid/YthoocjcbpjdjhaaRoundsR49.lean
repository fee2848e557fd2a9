/-
  Chapter 49: Rounds of the reference: the list of the program's.
-/
import Derived.Test.YthoocjcbpjdjhaaRounds49
import Derived.StillTailTactics
namespace Go.Proofs.Ythoocjcbpjdjhaa
open Go.RowKit

theorem firstF_odd {n r : Int} {l : List Fx} (h : n % 2 = 1) : firstF n r l = l := by unfold firstF addF; split <;> rw [if_neg (by omega)]
theorem firstF_e1 {n r : Int} {l : List Fx} (h : n % 2 = 0) (h1 : r < n) (h2 : r % 2 = 1) : firstF n r l = l ++ [⟨r, n + n % 2 - 1, r⟩] := by unfold firstF addF; rw [if_pos h2, if_pos (by omega)]
theorem firstF_e0 {n r : Int} {l : List Fx} (h : n % 2 = 0) (h1 : r < n) (h2 : ¬ r % 2 = 1) : firstF n r l = l ++ [⟨r, r, n + n % 2 - 1⟩] := by unfold firstF addF; rw [if_neg h2, if_pos (by omega)]
theorem pairF_lt {n x : Int} (h : 2 ≤ n) : x % (n + n % 2 - 1) < n := by have := Int.emod_lt_of_pos x (show 0 < n + n % 2 - 1 by omega); omega
theorem pairF_1 {n r k : Int} {l : List Fx} (hn : 2 ≤ n) (h2 : k % 2 = 1) : pairF n r k l = l ++ [⟨r, (r + k) % (n + n % 2 - 1), (r - k + (n + n % 2) - 1) % (n + n % 2 - 1)⟩] := by
  unfold pairF addF; rw [if_pos h2, if_pos ⟨pairF_lt hn, pairF_lt hn⟩]
theorem pairF_0 {n r k : Int} {l : List Fx} (hn : 2 ≤ n) (h2 : ¬ k % 2 = 1) : pairF n r k l = l ++ [⟨r, (r - k + (n + n % 2) - 1) % (n + n % 2 - 1), (r + k) % (n + n % 2 - 1)⟩] := by
  unfold pairF addF; rw [if_neg h2, if_pos ⟨pairF_lt hn, pairF_lt hn⟩]

/-- The slot 'v' is a slice of the call's own that holds l. -/
def SlI (w : World) (l : List Fx) (v : Value) (wr : World) : Prop :=
  Below w.heap.size w wr ∧ ∃ A c, v = .slice A l.length c ∧ OwnL fxE 3 37 w.heap.size wr (.slice A l.length c) l
theorem SlI.drewN {w wr : World} {l : List Fx} {v : Value} (h : SlI w l v wr) (k : Nat) : SlI w l v (wr.drewN k) := ⟨below_drewN h.1 k, h.2⟩
theorem Try.fxElem : ElemOf Try.prog fxE 3 24 23 37 := .mk' Try.infoFx rfl Try.underlying23 (by decide) fxE_len (fun x u hu => by simp [fxE] at hu; rcases hu with rfl | rfl | rfl <;> rfl)
theorem sl_end {w wr w0 w1 : World} {l : List Fx} {f : Fx} {A : Option Addr} {c g cap : Nat} (hb : Below w.heap.size w wr) (hown : OwnL fxE 3 37 w.heap.size wr (.slice A l.length c) l)
    (hw : Below wr.heap.size wr w0) (ha : App w0 w1 w.heap.size 37 3 (.slice A l.length c) g cap l.length 1 (l.flatMap fxE) (fxE f)) : SlI w (l ++ [f]) (.slice (some ⟨g, 0, none⟩) (l.length + 1) cap) w1 := by
  obtain ⟨h1, h2⟩ := app1_end hb (fun k hk => (World.ownsRow.lt hown k hk).1) hw ha
  exact ⟨h1, some ⟨g, 0, none⟩, cap, by simp, h2⟩

theorem cur_two_drew (w : World) (o1 o2 : Obj) : Below w.heap.size w ((w.alloc o1).alloc o2).drew := (cur_two w o1 o2).drew
def OutR (w : World) (n : Int) (v i : Value) (wr : World) : Prop := ∃ r : Nat, r ≤ (n + n % 2 - 1).toNat ∧ i = .int .i64 r ∧ SlI w (outerF n r) v wr
def InR (w : World) (n : Int) (r : Nat) (v i : Value) (wr : World) : Prop := ∃ k : Nat, k ≤ ((n + n % 2) / 2 - 1).toNat ∧ i = .int .i64 (k + 1) ∧ SlI w (innerF n r (outerF n r) k) v wr
def DblR (w : World) (n : Int) (L0 : List Fx) (A0 : Option Addr) (v i : Value) (wr : World) : Prop :=
  ∃ k : Nat, k ≤ L0.length ∧ i = .int .i64 k ∧ SlI w (L0 ++ (L0.take k).map (backF n)) v wr ∧ Rd fxE 3 wr wr.heap.size A0 L0 ∧ ∀ b off, A0 = some ⟨b, off, none⟩ → w.heap.size ≤ b ∧ off = 0

theorem dblR_start {w wr : World} {n : Int} {l : List Fx} {A : Option Addr} {c : Nat} (hb : Below w.heap.size w wr) (hown : OwnL fxE 3 37 w.heap.size wr (.slice A l.length c) l) : DblR w n l A (.slice A l.length c) (.int .i64 0) wr := by
  obtain ⟨A', c', hv, hrd, hbase⟩ := hown.rd fxE_len
  injection hv with hv1 hv2 hv3
  subst hv1 hv3
  have hh : SlI w l (.slice A l.length c) wr := ⟨hb, A, c, rfl, hown⟩
  exact ⟨0, Nat.zero_le _, rfl, by simpa using hh, hrd, hbase⟩
theorem rd_over {wr w0 w1 : World} {l L0 : List Fx} {A0 A : Option Addr} {base c g cap : Nat} {news : List Value} (hR : Rd fxE 3 wr wr.heap.size A0 L0)
    (hw : Below wr.heap.size wr w0) (ha : App w0 w1 base 37 3 (.slice A l.length c) g cap l.length 1 (l.flatMap fxE) news) (hle : L0.length ≤ l.length)
    (hbase : ∀ b off, A0 = some ⟨b, off, none⟩ → off = 0) : Rd fxE 3 w1 w1.heap.size A0 L0 := by
  have h2 : Rd fxE 3 w1 wr.heap.size A0 L0 := by
    intro k x hx
    obtain ⟨b, off, e, hb, hc⟩ := (hR.below hw) k x hx
    refine ⟨b, off, e, hb, fun j v hv => (ha.keep _ _ (Nat.lt_of_lt_of_le hb hw.size) fun hv' => ?_).trans (hc j v hv)⟩
    have h0 := hbase b off e
    have hj : j < 3 := by have := (List.getElem?_eq_some_iff.1 hv).1; rw [fxE_len] at this; exact this
    have hk : k < L0.length := (List.getElem?_eq_some_iff.1 hx).1
    omega
  exact h2.more (Nat.le_trans hw.size ha.grown.size)

set_option maxHeartbeats 400000 in
theorem roundsR_bad (n : Int) (d : Bool) (w : World) (h : n < 2 ∨ 20 < n) :
    Calls Try.prog 10 #[.int .i64 n, .bool d] w fun e w' => e = .returned (.tuple #[.slice none 0 0, .int .i64 2]) ∧ Below w.heap.size w w' := by
  by_cases h1 : n < 2
  · clear h
    go_enter Try.func10, Try.ntmps10
    go_wp2
    go_ret2
    exact ⟨rfl, Below.refl _ _⟩
  · have h2 : 20 < n := by omega
    clear h
    go_enter Try.func10, Try.ntmps10
    go_wp2
    go_ret2
    exact ⟨rfl, Below.refl _ _⟩

set_option maxRecDepth 100000 in
set_option maxHeartbeats 2000000 in
theorem roundsR_good (n : Int) (d : Bool) (w : World) (h1 : 2 ≤ n) (h2 : n ≤ 20) :
    Calls Try.prog 10 #[.int .i64 n, .bool d] w fun e w' => ∃ v, e = .returned (.tuple #[v, .int .i64 0]) ∧ OwnL fxE 3 37 w.heap.size w' v (roundsL n d) ∧ Below w.heap.size w w' := by
  go_enter Try.func10, Try.ntmps10
  go_wp2
  go_loopw [7, 8] (OutR w n) (fun _ i _ => (n + n % 2 - 1).toNat - (intOf i).toNat)
  case atStart => exact ⟨0, Nat.zero_le _, rfl, Below.refl _ _, none, 0, rfl, World.ownsRow_nil _ _ _ _⟩
  case round =>
    obtain ⟨r, hr, rfl, hb, A, c, rfl, hown⟩ := hrel
    have hsz := hb.size
    by_cases hlt : (r : Int) < n + n % 2 - 1
    · have hq : (r : Int) ≤ 20 := by omega
      have hrn : (r : Int) < n := by omega
      have hlen : (outerF n r).length ≤ 200 := by have := outerF_len n h2 r; omega
      have HB := Lib.hid hb
      have HO := Lib.hid hown
      clear hb hown
      obtain ⟨wo, rfl⟩ : ∃ wo : World, wo = wr := ⟨_, rfl⟩
      have key : (n % 2 = 0 ∧ (r : Int) % 2 = 1 ∧ firstF n r (outerF n r) = outerF n r ++ [⟨r, n + n % 2 - 1, r⟩]) ∨ (n % 2 = 0 ∧ ¬ (r : Int) % 2 = 1 ∧ firstF n r (outerF n r) = outerF n r ++ [⟨r, r, n + n % 2 - 1⟩]) ∨ (n % 2 = 1 ∧ firstF n r (outerF n r) = outerF n r) := by
        rcases (show n % 2 = 0 ∨ n % 2 = 1 by omega) with hp | hp
        · by_cases hq2 : (r : Int) % 2 = 1
          · exact .inl ⟨hp, hq2, firstF_e1 hp hrn hq2⟩
          · exact .inr (.inl ⟨hp, hq2, firstF_e0 hp hrn hq2⟩)
        · exact .inr (.inr ⟨hp, firstF_odd hp⟩)
      rcases key with ⟨hp, hq2, he⟩ | ⟨hp, hq2, he⟩ | ⟨hp, he⟩
      · have HE := Lib.hid he
        have en : (n + n % 2 == n) = true := by simp; omega
        have e2 : ((r : Int) % 2 == 1) = true := by simpa using hq2
        clear hp he hq2
        go_wp2_with (at_builtin; refine wpList_app1 Try.fxElem _ rfl (.tmp 47) (.tmp 49) rfl w.heap.size A c (outerF n r) rfl ?o1 ⟨r, n + n % 2 - 1, r⟩ (wo.heap.size + 1) 1 rfl ?o2 ?o3 ?o4 ?o5 ?_)
        case o1 => exact own_below HO.out (cur_two _ _ _) (Nat.le_refl _)
        case o2 => exact two_new _ _ _
        case o3 => unfold maxLen; omega
        case o4 => omega
        case o5 => simp; omega
        intro g cap w1 ha
        have hS : SlI w (innerF n r (outerF n r) 0) (.slice (some ⟨g, 0, none⟩) ((outerF n r).length + 1) cap) w1 := by unfold innerF; rw [HE.out]; exact sl_end HB.out HO.out (cur_two _ _ _) ha
        clear ha
        go_wp2
        go_loopw [7, 10] (InR w n r) (fun _ i _ => ((n + n % 2) / 2).toNat - (intOf i).toNat)
        case atStart => exact ⟨0, Nat.zero_le _, rfl, hS⟩
        case round =>
          obtain ⟨k, hk, rfl, hb, A2, c2, rfl, hown⟩ := hrel
          have hsz2 := hb.size
          have hlen2 : (innerF n r (outerF n r) k).length ≤ 1000 := by have := innerF_len n r (outerF n r) k; omega
          have HB2 := Lib.hid hb
          have HO2 := Lib.hid hown
          clear hb hown hS
          by_cases hlk : (k : Int) + 1 < (n + n % 2) / 2
          · have hwr : IntKind.i64.wrap ((r : Int) + ((k : Int) + 1)) = (r : Int) + ((k : Int) + 1) := IntWalk.i64_in _ (by omega)
            go_wp2_with fail
            go_region
            by_cases hp2 : ((k : Int) + 1) % 2 = 1
            · have HP2 := Lib.hid (pairF_1 (r := r) (l := innerF n r (outerF n r) k) h1 hp2)
              have e3 : (((k : Int) + 1) % 2 == 0) = false := by simp; omega
              clear hp2
              go_wp2_with (at_builtin; refine wpList_app1 Try.fxElem _ rfl (.tmp 83) (.tmp 85) rfl w.heap.size A2 c2 (innerF n r (outerF n r) k) rfl ?p1 ⟨r, (r + (k + 1)) % (n + n % 2 - 1), (r - (k + 1) + (n + n % 2) - 1) % (n + n % 2 - 1)⟩ (wr.heap.size + 1) 1 rfl ?p2 ?p3 ?p4 ?p5 ?_)
              case p1 => exact own_below HO2.out (cur_two_drew _ _ _) (Nat.le_refl _)
              case p2 => exact two_new _ _ _
              case p3 => unfold maxLen; omega
              case p4 => omega
              case p5 => simp; omega
              intro g cap w1 ha
              have hS2 := sl_end HB2.out HO2.out (cur_two_drew _ _ _) ha
              clear ha
              go_wp2
              go_roundw
              case rel => exact ⟨k + 1, by omega, by simp, by show SlI w (pairF n r (k + 1) (innerF n r (outerF n r) k)) _ _; rw [HP2.out]; exact hS2⟩
              case measure => simp [intOf]; omega
            · have HP2 := Lib.hid (pairF_0 (r := r) (l := innerF n r (outerF n r) k) h1 hp2)
              have e3 : (((k : Int) + 1) % 2 == 0) = true := by simp; omega
              clear hp2
              go_wp2_with (at_builtin; refine wpList_app1 Try.fxElem _ rfl (.tmp 83) (.tmp 85) rfl w.heap.size A2 c2 (innerF n r (outerF n r) k) rfl ?q1 ⟨r, (r - (k + 1) + (n + n % 2) - 1) % (n + n % 2 - 1), (r + (k + 1)) % (n + n % 2 - 1)⟩ (wr.heap.size + 1) 1 rfl ?q2 ?q3 ?q4 ?q5 ?_)
              case q1 => exact own_below HO2.out (cur_two_drew _ _ _) (Nat.le_refl _)
              case q2 => exact two_new _ _ _
              case q3 => unfold maxLen; omega
              case q4 => omega
              case q5 => simp; omega
              intro g cap w1 ha
              have hS2 := sl_end HB2.out HO2.out (cur_two_drew _ _ _) ha
              clear ha
              go_wp2
              go_roundw
              case rel => exact ⟨k + 1, by omega, by simp, by show SlI w (pairF n r (k + 1) (innerF n r (outerF n r) k)) _ _; rw [HP2.out]; exact hS2⟩
              case measure => simp [intOf]; omega
          · have hkk : k = ((n + n % 2) / 2 - 1).toNat := by omega
            have hfin : SlI w (outerF n (r + 1)) (.slice A2 (innerF n r (outerF n r) k).length c2) wr := by
              have e : outerF n (r + 1) = innerF n r (outerF n r) k := by rw [hkk]; rfl
              rw [e]; exact ⟨HB2.out, A2, c2, rfl, HO2.out⟩
            have HK := Lib.hid hkk
            clear hkk
            go_wp2
            go_roundw
            case rel => exact ⟨r + 1, by omega, by simp, hfin⟩
            case measure => simp [intOf]; omega
      · have HE := Lib.hid he
        have en : (n + n % 2 == n) = true := by simp; omega
        have e2 : ((r : Int) % 2 == 1) = false := by simpa using hq2
        clear hp he hq2
        go_wp2_with (at_builtin; refine wpList_app1 Try.fxElem _ rfl (.tmp 47) (.tmp 49) rfl w.heap.size A c (outerF n r) rfl ?o1 ⟨r, r, n + n % 2 - 1⟩ (wo.heap.size + 1) 1 rfl ?o2 ?o3 ?o4 ?o5 ?_)
        case o1 => exact own_below HO.out (cur_two _ _ _) (Nat.le_refl _)
        case o2 => exact two_new _ _ _
        case o3 => unfold maxLen; omega
        case o4 => omega
        case o5 => simp; omega
        intro g cap w1 ha
        have hS : SlI w (innerF n r (outerF n r) 0) (.slice (some ⟨g, 0, none⟩) ((outerF n r).length + 1) cap) w1 := by unfold innerF; rw [HE.out]; exact sl_end HB.out HO.out (cur_two _ _ _) ha
        clear ha
        go_wp2
        go_loopw [7, 10] (InR w n r) (fun _ i _ => ((n + n % 2) / 2).toNat - (intOf i).toNat)
        case atStart => exact ⟨0, Nat.zero_le _, rfl, hS⟩
        case round =>
          obtain ⟨k, hk, rfl, hb, A2, c2, rfl, hown⟩ := hrel
          have hsz2 := hb.size
          have hlen2 : (innerF n r (outerF n r) k).length ≤ 1000 := by have := innerF_len n r (outerF n r) k; omega
          have HB2 := Lib.hid hb
          have HO2 := Lib.hid hown
          clear hb hown hS
          by_cases hlk : (k : Int) + 1 < (n + n % 2) / 2
          · have hwr : IntKind.i64.wrap ((r : Int) + ((k : Int) + 1)) = (r : Int) + ((k : Int) + 1) := IntWalk.i64_in _ (by omega)
            go_wp2_with fail
            go_region
            by_cases hp2 : ((k : Int) + 1) % 2 = 1
            · have HP2 := Lib.hid (pairF_1 (r := r) (l := innerF n r (outerF n r) k) h1 hp2)
              have e3 : (((k : Int) + 1) % 2 == 0) = false := by simp; omega
              clear hp2
              go_wp2_with (at_builtin; refine wpList_app1 Try.fxElem _ rfl (.tmp 83) (.tmp 85) rfl w.heap.size A2 c2 (innerF n r (outerF n r) k) rfl ?p1 ⟨r, (r + (k + 1)) % (n + n % 2 - 1), (r - (k + 1) + (n + n % 2) - 1) % (n + n % 2 - 1)⟩ (wr.heap.size + 1) 1 rfl ?p2 ?p3 ?p4 ?p5 ?_)
              case p1 => exact own_below HO2.out (cur_two_drew _ _ _) (Nat.le_refl _)
              case p2 => exact two_new _ _ _
              case p3 => unfold maxLen; omega
              case p4 => omega
              case p5 => simp; omega
              intro g cap w1 ha
              have hS2 := sl_end HB2.out HO2.out (cur_two_drew _ _ _) ha
              clear ha
              go_wp2
              go_roundw
              case rel => exact ⟨k + 1, by omega, by simp, by show SlI w (pairF n r (k + 1) (innerF n r (outerF n r) k)) _ _; rw [HP2.out]; exact hS2⟩
              case measure => simp [intOf]; omega
            · have HP2 := Lib.hid (pairF_0 (r := r) (l := innerF n r (outerF n r) k) h1 hp2)
              have e3 : (((k : Int) + 1) % 2 == 0) = true := by simp; omega
              clear hp2
              go_wp2_with (at_builtin; refine wpList_app1 Try.fxElem _ rfl (.tmp 83) (.tmp 85) rfl w.heap.size A2 c2 (innerF n r (outerF n r) k) rfl ?q1 ⟨r, (r - (k + 1) + (n + n % 2) - 1) % (n + n % 2 - 1), (r + (k + 1)) % (n + n % 2 - 1)⟩ (wr.heap.size + 1) 1 rfl ?q2 ?q3 ?q4 ?q5 ?_)
              case q1 => exact own_below HO2.out (cur_two_drew _ _ _) (Nat.le_refl _)
              case q2 => exact two_new _ _ _
              case q3 => unfold maxLen; omega
              case q4 => omega
              case q5 => simp; omega
              intro g cap w1 ha
              have hS2 := sl_end HB2.out HO2.out (cur_two_drew _ _ _) ha
              clear ha
              go_wp2
              go_roundw
              case rel => exact ⟨k + 1, by omega, by simp, by show SlI w (pairF n r (k + 1) (innerF n r (outerF n r) k)) _ _; rw [HP2.out]; exact hS2⟩
              case measure => simp [intOf]; omega
          · have hkk : k = ((n + n % 2) / 2 - 1).toNat := by omega
            have hfin : SlI w (outerF n (r + 1)) (.slice A2 (innerF n r (outerF n r) k).length c2) wr := by
              have e : outerF n (r + 1) = innerF n r (outerF n r) k := by rw [hkk]; rfl
              rw [e]; exact ⟨HB2.out, A2, c2, rfl, HO2.out⟩
            have HK := Lib.hid hkk
            clear hkk
            go_wp2
            go_roundw
            case rel => exact ⟨r + 1, by omega, by simp, hfin⟩
            case measure => simp [intOf]; omega
      · have HE := Lib.hid he
        have en : (n + n % 2 == n) = false := by simp; omega
        clear hp he
        have hS : SlI w (innerF n r (outerF n r) 0) (.slice A (outerF n r).length c) wo := by unfold innerF; rw [HE.out]; exact ⟨HB.out, A, c, rfl, HO.out⟩
        go_wp2
        go_loopw [7, 10] (InR w n r) (fun _ i _ => ((n + n % 2) / 2).toNat - (intOf i).toNat)
        case atStart => exact ⟨0, Nat.zero_le _, rfl, hS⟩
        case round =>
          obtain ⟨k, hk, rfl, hb, A2, c2, rfl, hown⟩ := hrel
          have hsz2 := hb.size
          have hlen2 : (innerF n r (outerF n r) k).length ≤ 1000 := by have := innerF_len n r (outerF n r) k; omega
          have HB2 := Lib.hid hb
          have HO2 := Lib.hid hown
          clear hb hown hS
          by_cases hlk : (k : Int) + 1 < (n + n % 2) / 2
          · have hwr : IntKind.i64.wrap ((r : Int) + ((k : Int) + 1)) = (r : Int) + ((k : Int) + 1) := IntWalk.i64_in _ (by omega)
            go_wp2_with fail
            go_region
            by_cases hp2 : ((k : Int) + 1) % 2 = 1
            · have HP2 := Lib.hid (pairF_1 (r := r) (l := innerF n r (outerF n r) k) h1 hp2)
              have e3 : (((k : Int) + 1) % 2 == 0) = false := by simp; omega
              clear hp2
              go_wp2_with (at_builtin; refine wpList_app1 Try.fxElem _ rfl (.tmp 83) (.tmp 85) rfl w.heap.size A2 c2 (innerF n r (outerF n r) k) rfl ?p1 ⟨r, (r + (k + 1)) % (n + n % 2 - 1), (r - (k + 1) + (n + n % 2) - 1) % (n + n % 2 - 1)⟩ (wr.heap.size + 1) 1 rfl ?p2 ?p3 ?p4 ?p5 ?_)
              case p1 => exact own_below HO2.out (cur_two_drew _ _ _) (Nat.le_refl _)
              case p2 => exact two_new _ _ _
              case p3 => unfold maxLen; omega
              case p4 => omega
              case p5 => simp; omega
              intro g cap w1 ha
              have hS2 := sl_end HB2.out HO2.out (cur_two_drew _ _ _) ha
              clear ha
              go_wp2
              go_roundw
              case rel => exact ⟨k + 1, by omega, by simp, by show SlI w (pairF n r (k + 1) (innerF n r (outerF n r) k)) _ _; rw [HP2.out]; exact hS2⟩
              case measure => simp [intOf]; omega
            · have HP2 := Lib.hid (pairF_0 (r := r) (l := innerF n r (outerF n r) k) h1 hp2)
              have e3 : (((k : Int) + 1) % 2 == 0) = true := by simp; omega
              clear hp2
              go_wp2_with (at_builtin; refine wpList_app1 Try.fxElem _ rfl (.tmp 83) (.tmp 85) rfl w.heap.size A2 c2 (innerF n r (outerF n r) k) rfl ?q1 ⟨r, (r - (k + 1) + (n + n % 2) - 1) % (n + n % 2 - 1), (r + (k + 1)) % (n + n % 2 - 1)⟩ (wr.heap.size + 1) 1 rfl ?q2 ?q3 ?q4 ?q5 ?_)
              case q1 => exact own_below HO2.out (cur_two_drew _ _ _) (Nat.le_refl _)
              case q2 => exact two_new _ _ _
              case q3 => unfold maxLen; omega
              case q4 => omega
              case q5 => simp; omega
              intro g cap w1 ha
              have hS2 := sl_end HB2.out HO2.out (cur_two_drew _ _ _) ha
              clear ha
              go_wp2
              go_roundw
              case rel => exact ⟨k + 1, by omega, by simp, by show SlI w (pairF n r (k + 1) (innerF n r (outerF n r) k)) _ _; rw [HP2.out]; exact hS2⟩
              case measure => simp [intOf]; omega
          · have hkk : k = ((n + n % 2) / 2 - 1).toNat := by omega
            have hfin : SlI w (outerF n (r + 1)) (.slice A2 (innerF n r (outerF n r) k).length c2) wr := by
              have e : outerF n (r + 1) = innerF n r (outerF n r) k := by rw [hkk]; rfl
              rw [e]; exact ⟨HB2.out, A2, c2, rfl, HO2.out⟩
            have HK := Lib.hid hkk
            clear hkk
            go_wp2
            go_roundw
            case rel => exact ⟨r + 1, by omega, by simp, hfin⟩
            case measure => simp [intOf]; omega
    · have hrr : r = (n + n % 2 - 1).toNat := by omega
      have HR := Lib.hid hrr
      have hlen : (outerF n r).length ≤ 200 := by have := outerF_len n h2 r; omega
      have hok := outerF_ok (n := n) r (by omega)
      have hfin : d = false → OwnL fxE 3 37 w.heap.size wr (.slice A (outerF n r).length c) (roundsL n d) := by
        rintro rfl
        unfold roundsL
        rw [← hrr]
        exact hown
      have hD : DblR w n (outerF n r) A (.slice A (outerF n r).length c) (.int .i64 0) wr := dblR_start hb hown
      have HOK := Lib.hid hok
      have HF := Lib.hid hfin
      have HB := Lib.hid hb
      clear hok hfin hown hrr hb
      obtain ⟨L0, hL0⟩ : ∃ L0, L0 = outerF n r := ⟨_, rfl⟩
      rw [← hL0] at hD HOK hlen
      have HL := Lib.hid hL0
      cases d
      · clear hL0
        have HFF := Lib.hid (HF.out rfl)
        clear HF
        go_wp2
        go_ret2
        exact ⟨_, rfl, HFF.out, HB.out⟩
      · rw [← hL0]
        clear hL0 HF
        go_wp2
        go_loopw [7, 90] (DblR w n L0 A) (fun _ i _ => L0.length - (intOf i).toNat)
        case atStart => exact hD
        case round =>
          obtain ⟨k, hk, rfl, ⟨hb, A1, c1, rfl, hown⟩, hR, hbase⟩ := hrel
          have hsz2 := hb.size
          have hLL : (L0 ++ (L0.take k).map (backF n)).length = L0.length + k := by simp; omega
          have HLL := Lib.hid hLL
          have hfin : k = L0.length → OwnL fxE 3 37 w.heap.size wr (.slice A1 (L0 ++ (L0.take k).map (backF n)).length c1) (roundsL n true) := by
            intro e
            unfold roundsL
            rw [if_pos rfl, ← HR.out, ← HL.out]
            rw [e, List.take_length] at hown ⊢
            exact hown
          have HF := Lib.hid hfin
          have HB2 := Lib.hid hb
          have HO2 := Lib.hid hown
          have HR2 := Lib.hid hR
          have HBS := Lib.hid hbase
          clear hLL hfin hb hown
          by_cases hlk : k < L0.length
          · obtain ⟨x, hx⟩ : ∃ x, L0[k]? = some x := ⟨_, List.getElem?_eq_getElem hlk⟩
            have HE := Lib.hid (dbl_next (n := n) hx)
            obtain ⟨b, off, rfl, hbb, d0, d1, d2⟩ := rdFx hR (Below.refl _ _) hx
            have hxo := HOK.out x (List.mem_of_getElem? hx)
            unfold okF at hxo
            have hx0 : -1000 ≤ x.r := by omega
            have hx1 : x.r ≤ 1000 := by omega
            have hle : L0.length ≤ (L0 ++ (L0.take k).map (backF n)).length := by simp
            have hlen2 : (L0 ++ (L0.take k).map (backF n)).length ≤ 400 := by simp; omega
            have HLE := Lib.hid hle
            clear hx hR hxo hbase hle
            obtain ⟨L, hL⟩ : ∃ L, L = L0 ++ (L0.take k).map (backF n) := ⟨_, rfl⟩
            have HLQ := Lib.hid hL
            rw [← hL] at HO2 HLE hlen2 HE ⊢
            clear hL HLL HF hD
            go_wp2_with (at_builtin; refine wpList_app1 Try.fxElem _ rfl (.tmp 94) (.tmp 105) rfl w.heap.size A1 c1 L rfl ?r1 (backF n x) (wr.heap.size + 1) 1 rfl ?r2 ?r3 ?r4 ?r5 ?_)
            case r1 => exact own_below HO2.out (cur_two _ _ _) (Nat.le_refl _)
            case r2 => exact two_new _ _ _
            case r3 => unfold maxLen; omega
            case r4 => omega
            case r5 => simp; omega
            intro g cap w1 ha
            have hS2 := sl_end HB2.out HO2.out (cur_two _ _ _) ha
            have hRd := rd_over HR2.out (cur_two _ _ _) ha HLE.out (fun b off e => (HBS.out b off e).2)
            clear ha
            go_wp2
            go_roundw
            case rel => exact ⟨k + 1, hlk, by simp, by rw [HE.out]; exact hS2, hRd, HBS.out⟩
            case measure => simp [intOf]; omega
          · have hk2 : k = L0.length := by omega
            have HFF := Lib.hid (HF.out hk2)
            clear hk2 hbase hD HF HO2
            obtain ⟨L, hL⟩ : ∃ L, L = L0 ++ (L0.take k).map (backF n) := ⟨_, rfl⟩
            rw [← hL] at HFF HLL ⊢
            clear hL HLL
            go_wp2
            go_ret2
            exact ⟨_, rfl, HFF.out, HB2.out⟩
end Go.Proofs.Ythoocjcbpjdjhaa
